/- The interpreter set to this program, some functions (a range over a function; loads in no order) among what it answers. -/
import Derived.Test.YtkplfnkgodnmaaaBack3
import Derived.Test.YtkplfnkgodnmaaaEnv
import Derived.Test.YtkplfnkgodnmaaaMa10
import Derived.Test.YtkplfnkgodnmaaaWb
namespace Go.Proofs.Ytkplfnkgodnmaaa.Ev
noncomputable section
open Go Go.RowKit
set_option linter.all false
set_option maxRecDepth 100000
def jjc (na:Nat) (acc:List Nat):Code->List Nat
 | .seq a b=>jjc na (jjc na acc a) b
 | .block _ b=>jjc na acc b
 | .loop b=>jjc na acc b
 | .rangeFunc g _ _ b=>jhl na (rdO na [] acc [g]) b
 | c=>jhl na acc c
inductive IFB where
 | mk (ib:IB) (nargs nslots:Nat) (res:List IR)
def qdv (T:Tr TI) (fl:Bool) (f:Func):Option IFB :=
 match f.body with
 | none=>none
 | some b =>
  match f.params.size+f.nfree with
  | nargs=>match jyf nargs (jjc nargs [] b) f.results.toList with
   | acc=>match cB T fl (jwc 0 nargs++acc) f.ntmps b,j5d T (jwc 0 nargs++acc) f.results.toList with
    | some c,some r=>bif Nat.ble nargs f.ntmps then some (.mk c nargs (ja9 acc) r) else none
    | _,_=>none
def TB (c:FuncId) (fl:Bool):Option IFB:=ob (Try.prog.funcs[c]?) (qdv tys fl)
open Go Go.RowKit Go.Proofs.Ytkplfnkgodnmaaa.Ms
variable {v:AV} {h2:Hp} {fr st:List AV} {b:Nat}
set_option maxHeartbeats 2000000
theorem Wok.edge {w:Ms} {N:Nat} (wk:Wok w N) (k to:Nat) (args:List Nat):Wok (jdg w k to args) (N+1):=by
 unfold jdg
 refine⟨wk.m1,wk.m2,wk.vals,wk.known,by show w.cur<(w.blocks.modify k _).length;rw[f2u];exact wk.cur,f16 wk.nv,by show(w.blocks.modify k _).length<=_;rw[f2u];exact f16 wk.nb,f16 wk.nk,fun b hb=>?_,f16 wk.na⟩
 have hb':b∈w.blocks.modify k (fun b=>{ b with edges:=b.edges++[⟨to,args⟩] }):=hb
 rcases f0j k w.blocks.length with h1 | h1
 .rw [jfi (f0b h1)] at hb'
  rcases List.mem_or_eq_of_mem_set hb' with h | rfl
  .have:=wk.ni b h;omega
  .have:=wk.ni _ (f2r h1)
   simp only[f0g,f1x];omega
 .rw [List.modify_eq_self h1] at hb'
  have:=wk.ni b hb';omega
section
variable {F:Fns} (B:Base F)
include B
end
section
variable {F:Fns} (B:Base F)
include B
theorem Wok.newest {w:Ms} {N:Nat} (wk:Wok w N) (cls:Nat) (p:Pc):Wok (jap w cls p).2 (N+10):=by
 unfold jap
 split
 .exact ⟨wk.m1,wk.m2,wk.vals,wk.known,wk.cur,f1i wk.nv,f1i wk.nb,f1i wk.nk,fun b hb=>by have:=wk.ni b hb;omega,f1i wk.na⟩
 .exact wk.lay _
end
def j1g:IC:=.region [qQ 2 (.mv (qC 0))]
def j1h:IC:=.region [qP (.build [.nilSlice,.nilSlice,.nilSlice] []),qB 4 (.new 54 [.nilSlice,.nilSlice,.nilSlice]),qA (.store 3 qa qb)]
def j1i:IC:=.region [qQ 5 (.mv (.g 1)),qQ 7 (.len qa),qQ 8 (.mv (qC 0))]
def j1j:IC:=.region [qQ 6 (.bin .lt (.g 8) (.g 7))]
def j1k:IC:=qX 6 0
def j1l:IC:=.region [qP (.ixs 1 (.g 5) (.g 8)),qL,qT 3]
def j1m:List (IOper×List Nat):=[(qF 0 4,[]),(qL,[]),(qM 0,[]),(qM 3,[]),(qA (.call 43 [qb,qa]),[2]),(qA (.bslice 3 1 [.int .i64 0] 1 [(0,(1,qa))]),[3]),(qA (.app 3 1 8 (.l 4) qa),[]),(qF 0 4,[]),(qA (.store 1 qa qb),[])]
def j1n:IC:=.region [qI 8,qT 8]
def j1o:IB:=.seq (.c j1j) (.seq (.c j1k) (.seq (.block 1 (.seq (.c j1l) (.flo j1m))) (.c j1n)))
def j1p:List (IOper×List Nat):=[(qM 0,[]),(qM 0,[]),(qN,[]),(qG 2,[]),(qG 1,[]),(qL,[]),(qA (.load 3 true (.g 4)),[0]),(qA (.bslice 54 3 [.nilSlice,.nilSlice,.nilSlice] 1 [(0,(3,qa))]),[1]),(qA (.app 54 3 72 qc qa),[]),(qP (.nchk (.l 8)),[]),(qG 2,[]),(qG 1,[]),(qA (.store 1 qa qd),[])]
def j1q:IC:=.region [qM 0,qN,qG 2,qG 1,qL,qP (.len qa),qP (.bin .sub qa (qC 1)),qT 2]
def j1r:IC:=.ret
def j7x:IB:=.seq (.c j1g) (.seq (.c j1h) (.seq (.seq (.c j1i) (.block 0 (.loop j1o))) (.seq (.flo j1p) (.seq (.c j1q) (.c j1r)))))
def noB (_:FuncId):Bool:=false
theorem j86:∀ f,noB f=true->qe4 Try.prog f:=fun f hf=>by cases hf
theorem qmp {q:FB1} {fl:Bool} (hq:TB q.f fl=some (.mk q.ib q.nargs q.nslots q.res)):FbOk Try.prog tys q:=by
 obtain⟨fn,hfn,hcomp⟩:=jaa.1 (show ob (Try.prog.funcs[q.f]?) (qdv tys fl)=_ from hq)
 unfold qdv at hcomp
 split at hcomp
 .cases hcomp
 .rename_i b hb
  dsimp only at hcomp
  split at hcomp
  .rename_i c r hc hr
   cases hna:Nat.ble (fn.params.size+fn.nfree) fn.ntmps with
   | false=>rw[hna] at hcomp;cases hcomp
   | true =>
    rw[hna] at hcomp
    have h1:IFB.mk c (fn.params.size+fn.nfree) (ja9 (jyf (fn.params.size+fn.nfree) (jjc (fn.params.size+fn.nfree) [] b) fn.results.toList)) r=.mk q.ib q.nargs q.nslots q.res:=Option.some.inj hcomp
    obtain⟨e1,e2,e3,e4⟩:=IFB.mk.inj h1
    rw[e1,e2] at hc
    rw[e2,e4] at hr
    refine⟨⟨fn,hfn,by rw[hb];rfl,?_⟩,fn,b,_,fl,hfn,hb,by rw[←e2];exact f0i hna,hc,hr⟩
    have:=List.all_eq_true.1 qf7 fn (by
     rw[←f0x] at hfn
     exact f0c hfn)
    simpa using this
  .cases hcomp
def j87:FB1:=⟨29,j7x,2,7,[(.tmp 2)]⟩
def F2:Fns:=BX noB j87 F1
theorem qk6:Base F1 where
 T:=fun f=>rfl
 pk:=fun vs h=>rfl
 no:=fun f hf vs h=>by
  have:S1 f=false:=by rcases hf with rfl | rfl | rfl | rfl | rfl | rfl<;>rfl
  exact(jcr this).trans qnp
theorem qk7:Base F2 where
 T:=fun f=>rfl
 pk:=fun vs h=>jd5 rfl
 no:=fun f hf vs h=>by
  have:Nat.beq f j87.f=false:=by rcases hf with rfl | rfl | rfl | rfl | rfl | rfl<;>rfl
  exact(jd5 this).trans (qk6.no f hf vs h)
theorem jus {o:AO} {h:Hp}:(flE st fr o h v).ld=true:=rfl
theorem jut {o:AO} {h h':Hp} (k:jcp st fr h' o=some (v,h2)):(flE st fr o h v).ev h'=some (flE st fr o h v).v:=by
 show ob (jcp st fr h' o) (fun q=>some q.1)=some v
 rw[k];rfl
theorem j1s {o n m z:Nat} {e:Bool}:eqN (.s (.slice b o n m e z)) (.s (.slice b o n m e z))=true:=by
 show oif (Nat.beq b b) (oif (Nat.beq o o) (oif (Nat.beq n n) (oif (Nat.beq m m) (oif (j5s e e) (Nat.beq z z) false) false) false) false) false=true
 simp only[f1h]
 cases e<;>rfl
theorem Sl.eqN {α:Type} {h:Hp} {ty sz:Nat} {ex:Bool} {E:List SV->α->List Nat->Prop} {x:SV} {l:List α} {ns:List Nat} (k:Sl h ty sz ex E x l ns):eqN (.s x) (.s x)=true:=by
 rcases k with⟨_,rfl,_⟩ | ⟨_,b,rows,nss,rfl,_⟩
 .rfl
 .exact j1s
theorem Wok.block {w:Ms} {N:Nat} (wk:Wok w N) (cs:List Nat) (h1:cs.length<=2) (h2:∀ c∈cs,c<2):Wok (ja2 w cs) (N+2):=by
 unfold ja2
 refine⟨wk.m1,wk.m2,fun c hc=>?_,fun v hv=>by have:=wk.known v hv;simp;omega,by have:=wk.cur;simp;omega,by have:=wk.nv;simp;omega,by have:=wk.nb;simp;omega,f1i wk.nk,fun b hb=>?_,f1i wk.na⟩
 .rcases f0f.1 hc with h | h
  .exact wk.vals c h
  .exact h2 c h
 .rcases f0f.1 hb with h | h
  .have:=wk.ni b h;omega
  .obtain rfl:=f06.1 h
   simp;omega
def qmq (size:Nat) (x y:Option AV):Option AV:=ob x (fun v=>ja4 v
 (ob (ob y (fun x=>jg1 x (fun _ n=>Int.casesOn (motive:=fun _=>Option Nat) n (fun m=>some m) (fun _=>none)))) (fun hi'=>oif (Nat.beq (Nat.add hi' 0) 0) (some (AV.s .nilSlice)) none))
 (fun b off len mc ex sz=>ob (ob y (fun x=>jg1 x (fun _ n=>Int.casesOn (motive:=fun _=>Option Nat) n (fun m=>some m) (fun _=>none)))) (fun hi' =>
  oif (Nat.ble hi' mc) (oif (Nat.ble 0 hi') (oif (Nat.beq sz size) (some (AV.s (.slice b (Nat.add off (Nat.mul 0 size)) (Nat.sub hi' 0) (Nat.sub mc 0) ex sz))) none) none) none))
 (fun rows=>ob (ob y (fun x=>jg1 x (fun _ n=>Int.casesOn (motive:=fun _=>Option Nat) n (fun m=>some m) (fun _=>none)))) (fun hi' =>
  oif (Nat.ble hi' (ja9 rows)) (oif (Nat.ble 0 hi') (oif (jkp size rows) (ob (ja3 (Nat.sub hi' 0) (jbd 0 rows)) (fun r=>some (AV.s (.lst r)))) none) none) none))
 (ob (ob y (fun x=>jg1 x (fun _ n=>Int.casesOn (motive:=fun _=>Option Nat) n (fun m=>some m) (fun _=>none)))) (fun hi'=>oif (Nat.beq (Nat.add hi' 0) 0) (some (AV.s .emp)) none)))
theorem qdw {size off len mc k:Nat} {ex:Bool} (hk:k<=mc):qmq size (some (AV.s (.slice b off len mc ex size))) (some (vi (k:Int)))=some (AV.s (.slice b off k mc ex size)):=by
 show oif (Nat.ble k mc) (oif (Nat.ble 0 k) (oif (Nat.beq size size) (some (AV.s (SV.slice b (Nat.add off (Nat.mul 0 size)) (Nat.sub k 0) (Nat.sub mc 0) ex size))) none) none) none=_
 rw[show Nat.ble k mc=true from f1y hk,show Nat.ble 0 k=true from f1y (f1r _),f1h]
 show some (AV.s (SV.slice b (off+0*size) (k - 0) (mc - 0) ex size))=_
 simp
structure FS (h0 hi:Hp) (p:Nat) (w:Ms) (ns:List Nat) (L:List (Nat×AB)) (ns':List Nat):Prop where
 ok:Ok hi
 mr:MR tt hi p w ns'
 mv:Mv h0 hi ns ns'
 kp:∀ q∈L,hi.get q.1=some q.2/\h0.next<=q.1/\q.1<hi.next/\q.1∉ns'
section
variable {h0 hi:Hp} {p:Nat} {w:Ms} {ns ns':List Nat} {L:List (Nat×AB)}
theorem FS.pos (k:FS h0 hi p w ns L ns'):1<=hi.next:=by
 obtain⟨⟨a,b,c,n1,n2,n3,h1,h2,h3,h4,e⟩,h5,h6⟩:=k.mr
 have:=h6 p (by simp[e]);omega
theorem FS.sub {L':List (Nat×AB)} (k:FS h0 hi p w ns L ns') (h:∀ q∈L',q∈L):FS h0 hi p w ns L' ns':=⟨k.ok,k.mr,k.mv,fun q hq=>k.kp q (h q hq)⟩
theorem FS.step {w2:Ms} {ns2:List Nat} (k:FS h0 hi p w ns L ns') (m:MR tt h2 p w2 ns2) (v:Mv hi h2 ns' ns2):FS h0 h2 p w2 ns L ns2 :=
 ⟨v.ok,m,k.mv.trans v,fun q hq=>by
  obtain⟨h1,h3,h4,h5⟩:=k.kp q hq
  refine⟨(v.keep _ h4 h5).trans h1,h3,f0m h4 v.nx,fun h6=>?_⟩
  rcases v.new _ h6 with h7 | h7
  .exact h5 h7
  .omega⟩
theorem FS.push {a:AB} (k:FS h0 hi p w ns L ns'):FS h0 (hi.push a) p w ns ((hi.next,a)::L) ns':=by
 have g:∀ n,n<hi.next->(hi.push a).get n=hi.get n:=fun n hn=>by rw[jaq k.ok,if_neg (by omega)]
 have hmv:=k.mv
 have hnx:=hmv.nx
 refine⟨jb4 k.ok,k.mr.keep (fun n hn=>g n (k.mr.lt n hn).2) (by rw[Hp.next_push];omega),⟨jb4 k.ok,by rw[Hp.next_push];omega,hmv.new,fun n h1 h3=>(g n (by omega)).trans (hmv.keep n h1 h3)⟩,fun q hq=>?_⟩
 rcases f0h.1 hq with rfl | hq
 .exact ⟨by rw[jaq k.ok,if_pos rfl],hnx,by rw[Hp.next_push];omega,fun h1=>by have:=(k.mr.lt _ h1).2;omega⟩
 .obtain ⟨h1,h3,h4,h5⟩:=k.kp q hq
  exact⟨(g _ h4).trans h1,h3,by rw[Hp.next_push];omega,h5⟩
theorem FS.put {a a':AB} (k:FS h0 hi p w ns ((b,a)::L) ns') (hb:∀ q∈L,q.1≠b) (hpos:1<=h0.next):FS h0 (hi.put b (some a')) p w ns ((b,a')::L) ns':=by
 obtain⟨h1,h3,h4,h5⟩:=k.kp (b,a) (by simp)
 have hb1:1<=b:=f0w hpos h3
 have g:∀ n,n≠b->(hi.put b (some a')).get n=hi.get n:=fun n hn=>by rw[jba k.ok hb1,if_neg hn]
 have hmv:=k.mv
 have hnx:=hmv.nx
 simp only at h3 h5
 refine⟨jdf k.ok,k.mr.keep (fun n hn=>g n (fun e=>h5 (e▸hn))) (by rw[Hp.next_put];omega),⟨jdf k.ok,by rw[Hp.next_put];omega,hmv.new,fun n h6 h7=>(g n (by omega)).trans (hmv.keep n h6 h7)⟩,fun q hq=>?_⟩
 rcases f0h.1 hq with rfl | hq
 .exact ⟨by rw[jba k.ok hb1,if_pos rfl],h3,by rw[Hp.next_put];exact h4,h5⟩
 .obtain ⟨h6,h7,h8,h9⟩:=k.kp q (f1b _ hq)
  exact⟨(g _ (hb q hq)).trans h6,h7,by rw[Hp.next_put];exact h8,h9⟩
theorem FS.cells (k:FS h0 hi p w ns L ns'):∃ a b c,hi.get p=some (.arr [si w.m.1,si w.m.2,a,b,si w.cur,c,si w.all] tt.mas)/\jlz (.s c)=some (vi w.known.length)/\jlz (.s b)=some (vi w.blocks.length):=by
 obtain⟨⟨a,b,c,n1,n2,n3,h1,h2,h3,h4,e⟩,h5,h6⟩:=k.mr
 exact⟨a,b,c,h1,h4.len,h3.len⟩
end
section
variable {h0 hi:Hp} {p:Nat} {w:Ms} {ns ns':List Nat} {L:List (Nat×AB)} {N:Nat}
theorem FS.setknown {a b y:SV} {n1 n2 n3 n3':List Nat} {kn:List Nat} (k:FS h0 hi p w ns L (p::(n1++(n2++n3)))) (hv:Sl hi tt.int 1 false EI a w.values n1) (hb:Sl hi tt.blk 3 false (EB tt hi) b w.blocks n2) (ok2:Ok h2) (nx:hi.next<=h2.next)
 (kp:∀ n,n<hi.next->n∉n3->h2.get n=hi.get n) (hk:Sl h2 tt.int 1 false EI y kn n3') (nd:n3'.Nodup) (hn:∀ n∈n3',(n∈n3∨hi.next<=n)/\n<h2.next) :
 FS h0 (h2.put p (some (.arr [si w.m.1,si w.m.2,a,b,si w.cur,y,si w.all] tt.mas))) p { w with known:=kn } ns L (p::(n1++(n2++n3'))):=by
 have hd:=k.mr.nodup
 have lt:=k.mr.lt
 have hdt:=(f09.1 hd).2
 have hd1:=f0s.1 hdt
 have hd2:=f0s.1 hd1.2.1
 have q1:∀ n∈n1,h2.get n=hi.get n:=fun n hm=>kp n (lt n (by simp[hm])).2 (fun h3=>hd1.2.2 n hm n (by simp[h3]) rfl)
 have q2:∀ n∈n2,h2.get n=hi.get n:=fun n hm=>kp n (lt n (by simp[hm])).2 (fun h3=>hd2.2.2 n hm n h3 rfl)
 have nd':(n1++(n2++n3')).Nodup:=by
  have:=js7 (A:=n1++n2) (ns:=n3) (B:=[]) (ns':=n3') (by simpa using hdt) nd (fun n hm=>by
   rcases(hn n hm).1 with h3 | h3
   .exact .inl h3
   .exact .inr (fun h4=>by have:=(lt n (by simp at h4 ⊢;exact .inr h4)).2;omega))
  simpa using this
 have u:=MR.upd (t:=tt) (w':={ w with known:=kn }) hd lt k.pos ok2 nx (hv.keep q1) (hb.imp q2 (fun row a ms hm k=>k.keep (fun n hn=>q2 n (hm n hn)))) hk nd' (fun n hm=>by
  rcases f0f.1 hm with h3 | h3
  .exact ⟨.inl (by simp[h3]),by have:=(lt n (by simp[h3])).2;omega⟩
  .rcases f0f.1 h3 with h4 | h4
   .exact ⟨.inl (by simp[h4]),by have:=(lt n (by simp[h4])).2;omega⟩
   .exact ⟨(hn n h4).1.imp (fun h5=>by simp[h5]) id,(hn n h4).2⟩) (fun n h3 h4=>kp n h3 (fun h5=>h4 (by simp[h5])))
 exact k.step u.1 u.2
theorem juu {rows:List (List SV)} {l ns:List Nat} (k:Rows 1 EI rows l ns):rows=l.map (fun(n:Nat)=>[si (n:Int)])/\ns=[]:=by
 induction k with
 | nil=>exact⟨rfl,rfl⟩
 | cons h1 h2 _ ih =>
  obtain⟨rfl,rfl⟩:=h2
  obtain⟨rfl,rfl⟩:=ih
  exact⟨rfl,rfl⟩
theorem qdx:∀ (l:List Nat),Rows 1 EI (l.map (fun(n:Nat)=>[si (n:Int)])) l []
 | []=>.nil
 | a::l=>by
  have:=Rows.cons (sz:=1) (E:=EI) (row:=[si a]) (a:=a) (ns:=[]) rfl ⟨rfl,rfl⟩ (qdx l)
  exact this
theorem j7y (l:List Nat):(l.map (fun(n:Nat)=>[si (n:Int)])).flatten=l.map (fun(n:Nat)=>si (n:Int)):=by
 induction l with
 | nil=>rfl
 | cons a l ih=>simp[ih]
theorem FS.take (k:FS h0 hi p w ns L ns') {j:Nat} (hj:1<=j) (hj2:j<=w.known.length) (hN:w.known.length<=100000):∃ a b c x y h2 ns2,hi.get p=some (.arr [si w.m.1,si w.m.2,a,b,si w.cur,c,si w.all] tt.mas)/\qmq 1 (some (.s c)) (some (vi (j:Int)))=some (.s x)/\jjv hi 3 1 8 (.s .nilSlice) (.s x)=some (.s y,h2)/\Ok h2/\h2.get p=hi.get p /\
 FS h0 (h2.put p (some (.arr [si w.m.1,si w.m.2,a,b,si w.cur,y,si w.all] tt.mas))) p { w with known:=w.known.take j } ns L ns2:=by
 obtain⟨⟨a,b,c,n1,n2,n3,h1,h2,h3,h4,e⟩,h5,h6⟩:=id k.mr
 subst e
 rcases h4 with⟨e,_,_⟩ | ⟨hne,bk,rows,nss,rfl,hg,hR,rfl⟩
 .rw [e] at hj2;simp at hj2;omega
 .obtain ⟨rfl,rfl⟩:=juu hR
  have hl:(w.known.take j).length=j:=by rw[f2p];omega
  have hrd:rdB (hi.get bk) 0 ((w.known.take j).length*1)=some ((w.known.take j).map (fun(n:Nat)=>[si (n:Int)])).flatten:=by
   rw[hg,jdm]
   refine(jam _).2 ⟨?_,?_⟩
   .rw [hl,j7y];simp[jaz];omega
   .rw [hl,j7y,j7y,jaz,f2w,f1e,List.map_take]
  have hpos:=k.pos
  obtain⟨h7,e7,ok7,n7,kp7,sl7⟩:=(Sl.nil (h:=hi) (ty:=3) (sz:=1) (ex:=false) (E:=EI)).app (bytes:=8) (b':=bk) (o':=0) (mc':=w.known.length) (ex':=false) (l':=w.known.take j) (ms:=[]) k.ok (by simp) hrd (qdx _) (by intro e;rw[e] at hl;simp at hl;omega) (by simp;omega) (by simp;omega)
  rw[hl] at e7 sl7
  have hp:=h6 p (by simp)
  have kp8:∀ n,n<hi.next->h7.get n=hi.get n:=fun n hn=>kp7 n (by omega) (by simp)
  refine⟨a,b,_,_,_,h7,_,h1,qdw hj2,e7,ok7,kp8 p hp.2,k.setknown h2 h3 ok7 (by omega) (fun n hn _=>kp8 n hn) (sl7 (E':=EI) (fun _ _ _ _ h=>h)) (by simp) (fun n hn=>?_)⟩
  simp at hn;subst hn
  exact⟨.inr (f0d _),by omega⟩
theorem FS.params (k:FS h0 hi p w ns L ns') {j:Nat} {blk:Blk} (hj:w.blocks[j]?=some blk) (hne:blk.params≠[]) (hN:w.known.length+blk.params.length<=100000):∃ a b c bb pp y h2 ns2,hi.get p=some (.arr [si w.m.1,si w.m.2,a,b,si w.cur,c,si w.all] tt.mas)/\jj3 3 (.s b) (vi (j:Int))=some (.s (.ptr bb (j*3)))/\rdB (hi.get bb) (j*3) 1=some [pp] /\
 jjv hi 3 1 8 (.s c) (.s pp)=some (.s y,h2)/\Ok h2/\h2.get p=hi.get p /\
 FS h0 (h2.put p (some (.arr [si w.m.1,si w.m.2,a,b,si w.cur,y,si w.all] tt.mas))) p { w with known:=w.known++blk.params } ns L ns2:=by
 obtain⟨⟨a,b,c,n1,n2,n3,h1,h2,h3,h4,e⟩,h5,h6⟩:=id k.mr
 subst e
 obtain⟨bb,row,ms,ix,hrd,hrl,⟨pp,ia,ee,na,nb,nc,rfl,sp,sI,sE,rfl⟩,hms,hbb⟩:=h3.at hj
 have rd1:=jq5 (j:=0) (c:=pp) hrd rfl
 rcases sp with⟨e,_,_⟩ | ⟨_,bp,rows,nss,rfl,hg,hR,rfl⟩
 .exact absurd e hne
 .obtain ⟨rfl,rfl⟩:=juu hR
  have hl2:(blk.params.map (fun(n:Nat)=>[si (n:Int)])).flatten.length=blk.params.length:=by rw[j7y,f05]
  have hrd2:rdB (hi.get bp) 0 (blk.params.length*1)=some (blk.params.map (fun(n:Nat)=>[si (n:Int)])).flatten:=by
   rw[hg,jdm]
   refine(jam _).2 ⟨?_,?_⟩
   .simp only[jaz,f1e,hl2];omega
   .simp only[jaz,f1e]
    rw[f2n (by rw[hl2];omega)]
  obtain⟨h7,e7,ok7,n7,kp7,sl7⟩:=h4.app (bytes:=8) (mc':=blk.params.length) (ex':=false) (l':=blk.params) (ms:=[]) k.ok (fun n hn=>h6 n (by simp[hn])) hrd2 (qdx _) hne (by omega) (by omega)
  have hp:=h6 p (by simp)
  have hd:=h5
  have hdt:=(f09.1 hd).2
  have hd1:=f0s.1 hdt
  have hd2:=f0s.1 hd1.2.1
  have kp8:∀ n,n<hi.next->n∉n3->h7.get n=hi.get n:=fun n hn h8=>kp7 n (by omega) (fun b hb e=>h8 (e▸List.mem_of_mem_head? hb))
  have hp3:p∉n3:=fun h8=>(f09.1 hd).1 (by simp[h8])
  have hf:hi.next∉n3:=fun h8=>by have:=(h6 hi.next (by simp[h8])).2;omega
  refine⟨a,b,c,bb,_,_,h7,_,h1,ix,rd1,e7,ok7,kp8 p hp.2 hp3,k.setknown h2 h3 ok7 (by omega) kp8 (sl7 (E':=EI) (fun _ _ _ _ h=>h)) (jl2 hd2.2.1 .nil (by simp) hf (by simp)) (fun n hn=>?_)⟩
  rcases f0h.1 hn with rfl | hn
  .exact ⟨.inr (f0d _),by omega⟩
  .have h8:=f0r (by simpa using hn)
   exact⟨.inl h8,by have:=(h6 n (by simp[h8])).2;omega⟩
end
theorem FS.refl {h:Hp} {p:Nat} {w:Ms} {ns:List Nat} (ok:Ok h) (mr:MR tt h p w ns):FS h h p w ns [] ns:=⟨ok,mr,Mv.refl ok,by simp⟩
theorem Wok.take {w:Ms} {N j:Nat} (wk:Wok w N):Wok { w with known:=w.known.take j } N:=⟨wk.m1,wk.m2,wk.vals,fun v hv=>wk.known v (List.mem_of_mem_take hv),wk.cur,wk.nv,wk.nb,by have:=wk.nk;simp;omega,wk.ni,wk.na⟩
theorem Wok.new {w:Ms} {N:Nat} (wk:Wok w N) (cls:Nat) (p:Pc):Wok (jap w cls p).2 (N+10):=Wok.newest qk7 wk cls p
def qk8 (w:Ms) (cls before e k:Nat) (q:Pc):Ms :=
 let v:=jap w cls q
 let z:=jap v.2 0 q
 let w:=jdg z.2 k e [v.1,z.1]
 { w with known:=w.known.take before }
theorem Wok.tail {w:Ms} {N:Nat} (wk:Wok w N) (cls before e k:Nat) (q:Pc):Wok (qk8 w cls before e k q) (N+21) :=
 ((((wk.new cls q).new 0 q).edge k e _).take)
def pr (w:Ms) (j:Nat):Option (List Nat):=(w.blocks[j]?).map (·.params)
end
end Go.Proofs.Ytkplfnkgodnmaaa.Ev
