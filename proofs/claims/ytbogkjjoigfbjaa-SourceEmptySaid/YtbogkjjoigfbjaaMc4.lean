/- The interpreter set to this program, some functions (a range over a function; loads in no order) among what it answers. -/
import Derived.Test.YtbogkjjoigfbjaaBack3
import Derived.Test.YtbogkjjoigfbjaaEnv
import Derived.Test.YtbogkjjoigfbjaaMa10
import Derived.Test.YtbogkjjoigfbjaaWb
namespace Go.Proofs.Ytbogkjjoigfbjaa.Ev
open Go Go.RowKit
set_option linter.all false
set_option maxRecDepth 100000
inductive IFB where
 | mk (ib:IB) (nargs nslots:Nat) (res:List IR)
open Go Go.RowKit Go.Proofs.Ytbogkjjoigfbjaa.Ms
variable {h2:Hp} {b:Nat}
set_option maxHeartbeats 2000000
theorem Wok.edge {w:Ms} {N:Nat} (wk:Wok w N) (k to:Nat) (args:List Nat):Wok (jan w k to args) (N+1):=by
 unfold jan
 refine⟨wk.m1,wk.m2,wk.vals,wk.known,by show w.cur<(w.blocks.modify k _).length;rw[f0x];exact wk.cur,f1e wk.nv,by show(w.blocks.modify k _).length<=_;rw[f0x];exact f1e wk.nb,f1e wk.nk,fun b hb=>?_,f1e wk.na⟩
 have hb':b∈w.blocks.modify k (fun b=>{ b with edges:=b.edges++[⟨to,args⟩] }):=hb
 rcases f0e k w.blocks.length with h1 | h1
 .rw [jek (f0f h1)] at hb'
  rcases List.mem_or_eq_of_mem_set hb' with h | rfl
  .have:=wk.ni b h;omega
  .have:=wk.ni _ (f1y h1)
   simp only[f0s,f1u];omega
 .rw [List.modify_eq_self h1] at hb'
  have:=wk.ni b hb';omega
section
variable {F:Fns} (B:Base F)
include B
end
section
variable {F:Fns} (B:Base F)
include B
theorem Wok.newest {w:Ms} {N:Nat} (wk:Wok w N) (cls:Nat) (p:Pc):Wok (jac w cls p).2 (N+10):=by
 unfold jac
 split
 .exact ⟨wk.m1,wk.m2,wk.vals,wk.known,wk.cur,f06 wk.nv,f06 wk.nb,f06 wk.nk,fun b hb=>by have:=wk.ni b hb;omega,f06 wk.na⟩
 .exact wk.lay _
end
def jz4:IC:=.region [qQ 2 (.mv (qC 0))]
def jz5:IC:=.region [qP (.build [.nilSlice,.nilSlice,.nilSlice] []),qB 4 (.new 36 [.nilSlice,.nilSlice,.nilSlice]),qA (.store 3 qa qb)]
def jz6:IC:=.region [qQ 5 (.mv (.g 1)),qQ 7 (.len qa),qQ 8 (.mv (qC 0))]
def jz7:IC:=.region [qQ 6 (.bin .lt (.g 8) (.g 7))]
def jz8:IC:=qX 6 0
def jz9:IC:=.region [qP (.ixs 1 (.g 5) (.g 8)),qL,qT 3]
def j0a:List (IOper×List Nat):=[(qF 0 4,[]),(qL,[]),(qM 0,[]),(qM 3,[]),(qA (.call 34 [qb,qa]),[2]),(qA (.bslice 3 1 [.int .i64 0] 1 [(0,(1,qa))]),[3]),(qA (.app 3 1 8 (.l 4) qa),[]),(qF 0 4,[]),(qA (.store 1 qa qb),[])]
def j0b:IC:=.region [qI 8,qT 8]
def j0c:IB:=.seq (.c jz7) (.seq (.c jz8) (.seq (.block 1 (.seq (.c jz9) (.flo j0a))) (.c j0b)))
def j0d:List (IOper×List Nat):=[(qM 0,[]),(qM 0,[]),(qN,[]),(qG 2,[]),(qG 1,[]),(qL,[]),(qA (.load 3 true (.g 4)),[0]),(qA (.bslice 36 3 [.nilSlice,.nilSlice,.nilSlice] 1 [(0,(3,qa))]),[1]),(qA (.app 36 3 72 qc qa),[]),(qP (.nchk (.l 8)),[]),(qG 2,[]),(qG 1,[]),(qA (.store 1 qa qd),[])]
def j0e:IC:=.region [qM 0,qN,qG 2,qG 1,qL,qP (.len qa),qP (.bin .sub qa (qC 1)),qT 2]
def j0f:IC:=.ret
def j2i:IB:=.seq (.c jz4) (.seq (.c jz5) (.seq (.seq (.c jz6) (.block 0 (.loop j0c))) (.seq (.flo j0d) (.seq (.c j0e) (.c j0f)))))
def noB (_:FuncId):Bool:=false
def j3o:FB1:=⟨17,j2i,2,7,[(.tmp 2)]⟩
noncomputable def F2:Fns:=BX noB j3o F1
theorem qaf:Base F1 where
 T:=fun f=>rfl
 pk:=fun vs h=>rfl
 no:=fun f hf vs h=>by
  have:S1 f=false:=by rcases hf with rfl | rfl | rfl | rfl | rfl | rfl<;>rfl
  exact(jes this).trans qae
theorem qag:Base F2 where
 T:=fun f=>rfl
 pk:=fun vs h=>j3n rfl
 no:=fun f hf vs h=>by
  have:Nat.beq f j3o.f=false:=by rcases hf with rfl | rfl | rfl | rfl | rfl | rfl<;>rfl
  exact(j3n this).trans (qaf.no f hf vs h)
theorem j0g {o n m z:Nat} {e:Bool}:eqN (.s (.slice b o n m e z)) (.s (.slice b o n m e z))=true:=by
 show oif (Nat.beq b b) (oif (Nat.beq o o) (oif (Nat.beq n n) (oif (Nat.beq m m) (oif (j4u e e) (Nat.beq z z) false) false) false) false) false=true
 simp only[f1f]
 cases e<;>rfl
theorem Sl.eqN {α:Type} {h:Hp} {ty sz:Nat} {ex:Bool} {E:List SV->α->List Nat->Prop} {x:SV} {l:List α} {ns:List Nat} (k:Sl h ty sz ex E x l ns):eqN (.s x) (.s x)=true:=by
 rcases k with⟨_,rfl,_⟩ | ⟨_,b,rows,nss,rfl,_⟩
 .rfl
 .exact j0g
theorem Wok.block {w:Ms} {N:Nat} (wk:Wok w N) (cs:List Nat) (h1:cs.length<=2) (h2:∀ c∈cs,c<2):Wok (jad w cs) (N+2):=by
 unfold jad
 refine⟨wk.m1,wk.m2,fun c hc=>?_,fun v hv=>by have:=wk.known v hv;simp;omega,by have:=wk.cur;simp;omega,by have:=wk.nv;simp;omega,by have:=wk.nb;simp;omega,f06 wk.nk,fun b hb=>?_,f06 wk.na⟩
 .rcases f0i.1 hc with h | h
  .exact wk.vals c h
  .exact h2 c h
 .rcases f0i.1 hb with h | h
  .have:=wk.ni b h;omega
  .obtain rfl:=f0v.1 h
   simp;omega
noncomputable def qa5 (size:Nat) (x y:Option AV):Option AV:=ob x (fun v=>jbh v
 (ob (ob y (fun x=>jjp x (fun _ n=>Int.casesOn (motive:=fun _=>Option Nat) n (fun m=>some m) (fun _=>none)))) (fun hi'=>oif (Nat.beq (Nat.add hi' 0) 0) (some (AV.s .nilSlice)) none))
 (fun b off len mc ex sz=>ob (ob y (fun x=>jjp x (fun _ n=>Int.casesOn (motive:=fun _=>Option Nat) n (fun m=>some m) (fun _=>none)))) (fun hi' =>
  oif (Nat.ble hi' mc) (oif (Nat.ble 0 hi') (oif (Nat.beq sz size) (some (AV.s (.slice b (Nat.add off (Nat.mul 0 size)) (Nat.sub hi' 0) (Nat.sub mc 0) ex sz))) none) none) none))
 (fun rows=>ob (ob y (fun x=>jjp x (fun _ n=>Int.casesOn (motive:=fun _=>Option Nat) n (fun m=>some m) (fun _=>none)))) (fun hi' =>
  oif (Nat.ble hi' (jbu rows)) (oif (Nat.ble 0 hi') (oif (j24 size rows) (ob (ja4 (Nat.sub hi' 0) (jbm 0 rows)) (fun r=>some (AV.s (.lst r)))) none) none) none))
 (ob (ob y (fun x=>jjp x (fun _ n=>Int.casesOn (motive:=fun _=>Option Nat) n (fun m=>some m) (fun _=>none)))) (fun hi'=>oif (Nat.beq (Nat.add hi' 0) 0) (some (AV.s .emp)) none)))
theorem j53 {size off len mc k:Nat} {ex:Bool} (hk:k<=mc):qa5 size (some (AV.s (.slice b off len mc ex size))) (some (vi (k:Int)))=some (AV.s (.slice b off k mc ex size)):=by
 show oif (Nat.ble k mc) (oif (Nat.ble 0 k) (oif (Nat.beq size size) (some (AV.s (SV.slice b (Nat.add off (Nat.mul 0 size)) (Nat.sub k 0) (Nat.sub mc 0) ex size))) none) none) none=_
 rw[show Nat.ble k mc=true from Nat.ble_eq_true_of_le hk,show Nat.ble 0 k=true from Nat.ble_eq_true_of_le (f1o _),f1f]
 show some (AV.s (SV.slice b (off+0*size) (k - 0) (mc - 0) ex size))=_
 simp
structure FS (h0 hi:Hp) (p:Nat) (w:Ms) (ns:List Nat) (L:List (Nat×AB)) (ns':List Nat):Prop where
 ok:Ok hi
 mr:MR tt hi p w ns'
 mv:Mv h0 hi ns ns'
 kp:∀ q∈L,hi.get q.1=some q.2/\h0.next<=q.1/\q.1<hi.next/\q.1∉ns'
section
variable {h0 hi:Hp} {p:Nat} {w:Ms} {ns ns':List Nat} {L:List (Nat×AB)}
theorem FS.pos (k:FS h0 hi p w ns L ns'):1<=hi.next:=by
 obtain⟨⟨a,b,c,n1,n2,n3,h1,h2,h3,h4,e⟩,h5,h6⟩:=k.mr
 have:=h6 p (by simp[e]);omega
theorem FS.sub {L':List (Nat×AB)} (k:FS h0 hi p w ns L ns') (h:∀ q∈L',q∈L):FS h0 hi p w ns L' ns':=⟨k.ok,k.mr,k.mv,fun q hq=>k.kp q (h q hq)⟩
theorem FS.step {w2:Ms} {ns2:List Nat} (k:FS h0 hi p w ns L ns') (m:MR tt h2 p w2 ns2) (v:Mv hi h2 ns' ns2):FS h0 h2 p w2 ns L ns2 :=
 ⟨v.ok,m,k.mv.trans v,fun q hq=>by
  obtain⟨h1,h3,h4,h5⟩:=k.kp q hq
  refine⟨(v.keep _ h4 h5).trans h1,h3,f0j h4 v.nx,fun h6=>?_⟩
  rcases v.new _ h6 with h7 | h7
  .exact h5 h7
  .omega⟩
theorem FS.push {a:AB} (k:FS h0 hi p w ns L ns'):FS h0 (hi.push a) p w ns ((hi.next,a)::L) ns':=by
 have g:∀ n,n<hi.next->(hi.push a).get n=hi.get n:=fun n hn=>by rw[jbz k.ok,if_neg (by omega)]
 have hmv:=k.mv
 have hnx:=hmv.nx
 refine⟨jdr k.ok,k.mr.keep (fun n hn=>g n (k.mr.lt n hn).2) (by rw[Hp.next_push];omega),⟨jdr k.ok,by rw[Hp.next_push];omega,hmv.new,fun n h1 h3=>(g n (by omega)).trans (hmv.keep n h1 h3)⟩,fun q hq=>?_⟩
 rcases f0o.1 hq with rfl | hq
 .exact ⟨by rw[jbz k.ok,if_pos rfl],hnx,by rw[Hp.next_push];omega,fun h1=>by have:=(k.mr.lt _ h1).2;omega⟩
 .obtain ⟨h1,h3,h4,h5⟩:=k.kp q hq
  exact⟨(g _ h4).trans h1,h3,by rw[Hp.next_push];omega,h5⟩
theorem FS.put {a a':AB} (k:FS h0 hi p w ns ((b,a)::L) ns') (hb:∀ q∈L,q.1≠b) (hpos:1<=h0.next):FS h0 (hi.put b (some a')) p w ns ((b,a')::L) ns':=by
 obtain⟨h1,h3,h4,h5⟩:=k.kp (b,a) (by simp)
 have hb1:1<=b:=f0t hpos h3
 have g:∀ n,n≠b->(hi.put b (some a')).get n=hi.get n:=fun n hn=>by rw[jbi k.ok hb1,if_neg hn]
 have hmv:=k.mv
 have hnx:=hmv.nx
 simp only at h3 h5
 refine⟨jd7 k.ok,k.mr.keep (fun n hn=>g n (fun e=>h5 (e▸hn))) (by rw[Hp.next_put];omega),⟨jd7 k.ok,by rw[Hp.next_put];omega,hmv.new,fun n h6 h7=>(g n (by omega)).trans (hmv.keep n h6 h7)⟩,fun q hq=>?_⟩
 rcases f0o.1 hq with rfl | hq
 .exact ⟨by rw[jbi k.ok hb1,if_pos rfl],h3,by rw[Hp.next_put];exact h4,h5⟩
 .obtain ⟨h6,h7,h8,h9⟩:=k.kp q (f1n _ hq)
  exact⟨(g _ (hb q hq)).trans h6,h7,by rw[Hp.next_put];exact h8,h9⟩
theorem FS.cells (k:FS h0 hi p w ns L ns'):∃ a b c,hi.get p=some (.arr [si w.m.1,si w.m.2,a,b,si w.cur,c,si w.all] tt.mas)/\js2 (.s c)=some (vi w.known.length)/\js2 (.s b)=some (vi w.blocks.length):=by
 obtain⟨⟨a,b,c,n1,n2,n3,h1,h2,h3,h4,e⟩,h5,h6⟩:=k.mr
 exact⟨a,b,c,h1,h4.len,h3.len⟩
theorem FS.setcur {a b c:SV} {j:Nat} (k:FS h0 hi p w ns L ns') (hg:hi.get p=some (.arr [si w.m.1,si w.m.2,a,b,si w.cur,c,si w.all] tt.mas)):FS h0 (hi.put p (some (.arr [si w.m.1,si w.m.2,a,b,si j,c,si w.all] tt.mas))) p { w with cur:=j } ns L ns':=by
 obtain⟨⟨a',b',c',n1,n2,n3,h1,h2,h3,h4,e⟩,h5,h6⟩:=id k.mr
 subst e
 rw[h1] at hg
 simp only[Option.some.injEq,AB.arr.injEq,List.cons.injEq] at hg
 obtain⟨⟨_,_,rfl,rfl,_,rfl,_⟩,_⟩:=hg
 have hp:=h6 p (by simp)
 refine k.step (MR.mk_put (w':={ w with cur:=j }) k.ok h2 h3 h4 h5 h6) ⟨jd7 k.ok,by rw[Hp.next_put];omega,fun n hn=>.inl hn,fun n h7 h8=>?_⟩
 rw[jbi k.ok hp.1,if_neg (fun e=>h8 (by simp[e]))]
end
section
variable {h0 hi:Hp} {p:Nat} {w:Ms} {ns ns':List Nat} {L:List (Nat×AB)} {N:Nat}
theorem FS.setknown {a b y:SV} {n1 n2 n3 n3':List Nat} {kn:List Nat} (k:FS h0 hi p w ns L (p::(n1++(n2++n3)))) (hv:Sl hi tt.int 1 false EI a w.values n1) (hb:Sl hi tt.blk 3 false (EB tt hi) b w.blocks n2) (ok2:Ok h2) (nx:hi.next<=h2.next)
 (kp:∀ n,n<hi.next->n∉n3->h2.get n=hi.get n) (hk:Sl h2 tt.int 1 false EI y kn n3') (nd:n3'.Nodup) (hn:∀ n∈n3',(n∈n3∨hi.next<=n)/\n<h2.next) :
 FS h0 (h2.put p (some (.arr [si w.m.1,si w.m.2,a,b,si w.cur,y,si w.all] tt.mas))) p { w with known:=kn } ns L (p::(n1++(n2++n3'))):=by
 have hd:=k.mr.nodup
 have lt:=k.mr.lt
 have hdt:=(f1s.1 hd).2
 have hd1:=f0y.1 hdt
 have hd2:=f0y.1 hd1.2.1
 have q1:∀ n∈n1,h2.get n=hi.get n:=fun n hm=>kp n (lt n (by simp[hm])).2 (fun h3=>hd1.2.2 n hm n (by simp[h3]) rfl)
 have q2:∀ n∈n2,h2.get n=hi.get n:=fun n hm=>kp n (lt n (by simp[hm])).2 (fun h3=>hd2.2.2 n hm n h3 rfl)
 have nd':(n1++(n2++n3')).Nodup:=by
  have:=jt2 (A:=n1++n2) (ns:=n3) (B:=[]) (ns':=n3') (by simpa using hdt) nd (fun n hm=>by
   rcases(hn n hm).1 with h3 | h3
   .exact .inl h3
   .exact .inr (fun h4=>by have:=(lt n (by simp at h4 ⊢;exact .inr h4)).2;omega))
  simpa using this
 have u:=MR.upd (t:=tt) (w':={ w with known:=kn }) hd lt k.pos ok2 nx (hv.keep q1) (hb.imp q2 (fun row a ms hm k=>k.keep (fun n hn=>q2 n (hm n hn)))) hk nd' (fun n hm=>by
  rcases f0i.1 hm with h3 | h3
  .exact ⟨.inl (by simp[h3]),by have:=(lt n (by simp[h3])).2;omega⟩
  .rcases f0i.1 h3 with h4 | h4
   .exact ⟨.inl (by simp[h4]),by have:=(lt n (by simp[h4])).2;omega⟩
   .exact ⟨(hn n h4).1.imp (fun h5=>by simp[h5]) id,(hn n h4).2⟩) (fun n h3 h4=>kp n h3 (fun h5=>h4 (by simp[h5])))
 exact k.step u.1 u.2
theorem ju8 {rows:List (List SV)} {l ns:List Nat} (k:Rows 1 EI rows l ns):rows=l.map (fun(n:Nat)=>[si (n:Int)])/\ns=[]:=by
 induction k with
 | nil=>exact⟨rfl,rfl⟩
 | cons h1 h2 _ ih =>
  obtain⟨rfl,rfl⟩:=h2
  obtain⟨rfl,rfl⟩:=ih
  exact⟨rfl,rfl⟩
theorem j54:∀ (l:List Nat),Rows 1 EI (l.map (fun(n:Nat)=>[si (n:Int)])) l []
 | []=>.nil
 | a::l=>by
  have:=Rows.cons (sz:=1) (E:=EI) (row:=[si a]) (a:=a) (ns:=[]) rfl ⟨rfl,rfl⟩ (j54 l)
  exact this
theorem j2j (l:List Nat):(l.map (fun(n:Nat)=>[si (n:Int)])).flatten=l.map (fun(n:Nat)=>si (n:Int)):=by
 induction l with
 | nil=>rfl
 | cons a l ih=>simp[ih]
theorem FS.take (k:FS h0 hi p w ns L ns') {j:Nat} (hj:1<=j) (hj2:j<=w.known.length) (hN:w.known.length<=100000):∃ a b c x y h2 ns2,hi.get p=some (.arr [si w.m.1,si w.m.2,a,b,si w.cur,c,si w.all] tt.mas)/\qa5 1 (some (.s c)) (some (vi (j:Int)))=some (.s x)/\jrm hi 3 1 8 (.s .nilSlice) (.s x)=some (.s y,h2)/\Ok h2/\h2.get p=hi.get p /\
 FS h0 (h2.put p (some (.arr [si w.m.1,si w.m.2,a,b,si w.cur,y,si w.all] tt.mas))) p { w with known:=w.known.take j } ns L ns2:=by
 obtain⟨⟨a,b,c,n1,n2,n3,h1,h2,h3,h4,e⟩,h5,h6⟩:=id k.mr
 subst e
 rcases h4 with⟨e,_,_⟩ | ⟨hne,bk,rows,nss,rfl,hg,hR,rfl⟩
 .rw [e] at hj2;simp at hj2;omega
 .obtain ⟨rfl,rfl⟩:=ju8 hR
  have hl:(w.known.take j).length=j:=by rw[f1w];omega
  have hrd:rdB (hi.get bk) 0 ((w.known.take j).length*1)=some ((w.known.take j).map (fun(n:Nat)=>[si (n:Int)])).flatten:=by
   rw[hg,jds]
   refine(jaj _).2 ⟨?_,?_⟩
   .rw [hl,j2j];simp[jbk];omega
   .rw [hl,j2j,j2j,jbk,Nat.mul_one,List.drop_zero,List.map_take]
  have hpos:=k.pos
  obtain⟨h7,e7,ok7,n7,kp7,sl7⟩:=(Sl.nil (h:=hi) (ty:=3) (sz:=1) (ex:=false) (E:=EI)).app (bytes:=8) (b':=bk) (o':=0) (mc':=w.known.length) (ex':=false) (l':=w.known.take j) (ms:=[]) k.ok (by simp) hrd (j54 _) (by intro e;rw[e] at hl;simp at hl;omega) (by simp;omega) (by simp;omega)
  rw[hl] at e7 sl7
  have hp:=h6 p (by simp)
  have kp8:∀ n,n<hi.next->h7.get n=hi.get n:=fun n hn=>kp7 n (by omega) (by simp)
  refine⟨a,b,_,_,_,h7,_,h1,j53 hj2,e7,ok7,kp8 p hp.2,k.setknown h2 h3 ok7 (by omega) (fun n hn _=>kp8 n hn) (sl7 (E':=EI) (fun _ _ _ _ h=>h)) (by simp) (fun n hn=>?_)⟩
  simp at hn;subst hn
  exact⟨.inr (f0b _),by omega⟩
theorem FS.params (k:FS h0 hi p w ns L ns') {j:Nat} {blk:Blk} (hj:w.blocks[j]?=some blk) (hne:blk.params≠[]) (hN:w.known.length+blk.params.length<=100000):∃ a b c bb pp y h2 ns2,hi.get p=some (.arr [si w.m.1,si w.m.2,a,b,si w.cur,c,si w.all] tt.mas)/\jwo 3 (.s b) (vi (j:Int))=some (.s (.ptr bb (j*3)))/\rdB (hi.get bb) (j*3) 1=some [pp] /\
 jrm hi 3 1 8 (.s c) (.s pp)=some (.s y,h2)/\Ok h2/\h2.get p=hi.get p /\
 FS h0 (h2.put p (some (.arr [si w.m.1,si w.m.2,a,b,si w.cur,y,si w.all] tt.mas))) p { w with known:=w.known++blk.params } ns L ns2:=by
 obtain⟨⟨a,b,c,n1,n2,n3,h1,h2,h3,h4,e⟩,h5,h6⟩:=id k.mr
 subst e
 obtain⟨bb,row,ms,ix,hrd,hrl,⟨pp,ia,ee,na,nb,nc,rfl,sp,sI,sE,rfl⟩,hms,hbb⟩:=h3.at hj
 have rd1:=jrp (j:=0) (c:=pp) hrd rfl
 rcases sp with⟨e,_,_⟩ | ⟨_,bp,rows,nss,rfl,hg,hR,rfl⟩
 .exact absurd e hne
 .obtain ⟨rfl,rfl⟩:=ju8 hR
  have hl2:(blk.params.map (fun(n:Nat)=>[si (n:Int)])).flatten.length=blk.params.length:=by rw[j2j,f1t]
  have hrd2:rdB (hi.get bp) 0 (blk.params.length*1)=some (blk.params.map (fun(n:Nat)=>[si (n:Int)])).flatten:=by
   rw[hg,jds]
   refine(jaj _).2 ⟨?_,?_⟩
   .simp only[jbk,List.drop_zero,hl2];omega
   .simp only[jbk,List.drop_zero]
    rw[List.take_of_length_le (by rw[hl2];omega)]
  obtain⟨h7,e7,ok7,n7,kp7,sl7⟩:=h4.app (bytes:=8) (mc':=blk.params.length) (ex':=false) (l':=blk.params) (ms:=[]) k.ok (fun n hn=>h6 n (by simp[hn])) hrd2 (j54 _) hne (by omega) (by omega)
  have hp:=h6 p (by simp)
  have hd:=h5
  have hdt:=(f1s.1 hd).2
  have hd1:=f0y.1 hdt
  have hd2:=f0y.1 hd1.2.1
  have kp8:∀ n,n<hi.next->n∉n3->h7.get n=hi.get n:=fun n hn h8=>kp7 n (by omega) (fun b hb e=>h8 (e▸List.mem_of_mem_head? hb))
  have hp3:p∉n3:=fun h8=>(f1s.1 hd).1 (by simp[h8])
  have hf:hi.next∉n3:=fun h8=>by have:=(h6 hi.next (by simp[h8])).2;omega
  refine⟨a,b,c,bb,_,_,h7,_,h1,ix,rd1,e7,ok7,kp8 p hp.2 hp3,k.setknown h2 h3 ok7 (by omega) kp8 (sl7 (E':=EI) (fun _ _ _ _ h=>h)) (jho hd2.2.1 .nil (by simp) hf (by simp)) (fun n hn=>?_)⟩
  rcases f0o.1 hn with rfl | hn
  .exact ⟨.inr (f0b _),by omega⟩
  .have h8:=f09 (by simpa using hn)
   exact⟨.inl h8,by have:=(h6 n (by simp[h8])).2;omega⟩
end
theorem FS.refl {h:Hp} {p:Nat} {w:Ms} {ns:List Nat} (ok:Ok h) (mr:MR tt h p w ns):FS h h p w ns [] ns:=⟨ok,mr,Mv.refl ok,by simp⟩
theorem jhp (w:Ms) (p:Pc):w.known.length<=(jcu w p).known.length/\(jcu w p).blocks.length=w.blocks.length:=by
 obtain⟨cs,h1,h2,h3⟩:=jjy w p
 refine⟨?_,?_⟩
 .show _<=((jav w p).2.known++_).length
  rw[h3];simp
 .show (jak (jav w p).2.blocks _ _).length=_
  unfold jak;rw[f0x,h3]
theorem jel (w:Ms) (c:Nat) (p:Pc):w.known.length<=(jac w c p).2.known.length/\(jac w c p).2.blocks.length=w.blocks.length:=by
 unfold jac
 split
 .exact ⟨f0b _,rfl⟩
 .exact jhp _ _
theorem jdc (w:Ms) (k to:Nat) (l:List Nat):(jan w k to l).known=w.known/\(jan w k to l).blocks.length=w.blocks.length:=by
 unfold jan
 exact⟨rfl,by simp⟩
theorem Wok.setcur {w:Ms} {N j:Nat} (wk:Wok w N) (h:j<w.blocks.length):Wok { w with cur:=j } N:=⟨wk.m1,wk.m2,wk.vals,wk.known,h,wk.nv,wk.nb,wk.nk,wk.ni,wk.na⟩
theorem Wok.take {w:Ms} {N j:Nat} (wk:Wok w N):Wok { w with known:=w.known.take j } N:=⟨wk.m1,wk.m2,wk.vals,fun v hv=>wk.known v (List.mem_of_mem_take hv),wk.cur,wk.nv,wk.nb,by have:=wk.nk;simp;omega,wk.ni,wk.na⟩
theorem Wok.new {w:Ms} {N:Nat} (wk:Wok w N) (cls:Nat) (p:Pc):Wok (jac w cls p).2 (N+10):=Wok.newest qag wk cls p
def jwy (w:Ms) (cls before e k:Nat) (q:Pc):Ms :=
 let v:=jac w cls q
 let z:=jac v.2 0 q
 let w:=jan z.2 k e [v.1,z.1]
 { w with known:=w.known.take before }
theorem Wok.tail {w:Ms} {N:Nat} (wk:Wok w N) (cls before e k:Nat) (q:Pc):Wok (jwy w cls before e k q) (N+21) :=
 ((((wk.new cls q).new 0 q).edge k e _).take)
theorem j2k (q:Pc) (cls before e k:Nat) (lay:Bool) (w:Ms):(jmo q cls before e k lay w).2=jwy (if lay then jcu { w with cur:=k } { q with a:=inc q.a,op:=inc q.op } else { w with cur:=k }) cls before e k (if lay then { q with a:=inc q.a,op:=inc q.op } else { q with a:=inc q.a }):=by cases lay<;>rfl
theorem ju9 {w:Ms} {cls before e k:Nat} {q:Pc} (h:before<=w.known.length):(jwy w cls before e k q).known.length=before/\(jwy w cls before e k q).blocks.length=w.blocks.length:=by
 have g1:=jel w cls q
 have g2:=jel (jac w cls q).2 0 q
 have g5:=jdc (jac (jac w cls q).2 0 q).2 k e [(jac w cls q).1,(jac (jac w cls q).2 0 q).1]
 refine⟨?_,?_⟩
 .show ((jan _ _ _ _).known.take before).length=_
  rw[g5.1,f1w];omega
 .show (jan _ _ _ _).blocks.length=_
  rw[g5.2,g2.2,g1.2]
theorem j0h {q:Pc} {cls before e k:Nat} {lay:Bool} {w:Ms} (h:before<=w.known.length):(jmo q cls before e k lay w).2.known.length=before/\(jmo q cls before e k lay w).2.blocks.length=w.blocks.length:=by
 rw[j2k]
 cases lay with
 | true =>
  have g:=jhp { w with cur:=k } { q with a:=inc q.a,op:=inc q.op }
  have:=ju9 (w:=jcu { w with cur:=k } { q with a:=inc q.a,op:=inc q.op }) (cls:=cls) (before:=before) (e:=e) (k:=k) (q:={ q with a:=inc q.a,op:=inc q.op }) (f0t h g.1)
  simp only[if_true]
  exact⟨this.1,this.2.trans g.2⟩
 | false=>exact ju9 (w:={ w with cur:=k }) h
theorem Wok.way {w:Ms} {N:Nat} (wk:Wok w N) (q:Pc) (cls before e k:Nat) (lay:Bool) (hk:k<w.blocks.length):Wok (jmo q cls before e k lay w).2 (N+31):=by
 rw[j2k]
 cases lay with
 | true=>exact((wk.setcur hk).lay { q with a:=inc q.a,op:=inc q.op }).tail cls before e k _
 | false =>
  have:=(wk.setcur hk).tail cls before e k { q with a:=inc q.a }
  exact⟨this.m1,this.m2,this.vals,this.known,this.cur,f0t this.nv (by omega),f0t this.nb (by omega),f0t this.nk (by omega),fun b hb=>by have:=this.ni b hb;omega,f0t this.na (by omega)⟩
def pr (w:Ms) (j:Nat):Option (List Nat):=(w.blocks[j]?).map (·.params)
theorem j3p {l:List Blk} {k j:Nat} {f:Blk->Blk} (hf:∀ b,(f b).params=b.params):((l.modify k f)[j]?).map (·.params)=(l[j]?).map (·.params):=by
 rw[f0w]
 split
 .cases l[j]? with
  | none=>rfl
  | some b=>exact congrArg some (hf b)
 .simp
theorem j3q (w:Ms) (p:Pc) (j:Nat):pr (jcu w p) j=pr w j:=by
 obtain⟨cs,h1,h2,h3⟩:=jjy w p
 show((jak (jav w p).2.blocks _ _)[j]?).map (·.params)=_
 unfold jak
 rw[j3p (f:=fun b:Blk=>{ b with instrs:=b.instrs++[(jav w p).1] }) (fun _=>rfl),h3]
 rfl
theorem jrr (w:Ms) (c:Nat) (p:Pc) (j:Nat):pr (jac w c p).2 j=pr w j:=by
 unfold jac
 split
 .rfl
 .exact j3q _ _ _
theorem jqb (w:Ms) (k to:Nat) (l:List Nat) (j:Nat):pr (jan w k to l) j=pr w j:=j3p (fun _=>rfl)
theorem j55 (w:Ms) (cls before e k:Nat) (q:Pc) (j:Nat):pr (jwy w cls before e k q) j=pr w j:=(jqb _ _ _ _ j).trans ((jrr _ _ _ j).trans (jrr _ _ _ j))
theorem j3r (q:Pc) (cls before e k:Nat) (lay:Bool) (w:Ms) (j:Nat):pr (jmo q cls before e k lay w).2 j=pr w j:=by
 rw[j2k,j55]
 cases lay with
 | true=>exact j3q _ _ _
 | false=>rfl
end Go.Proofs.Ytbogkjjoigfbjaa.Ev
