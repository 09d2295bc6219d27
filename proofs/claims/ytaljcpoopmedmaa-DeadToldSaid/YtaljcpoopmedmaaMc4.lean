/- The builders of functions: steps of a way through the builder; what else is kept. -/
import Derived.Test.YtaljcpoopmedmaaMb2
namespace Go.Proofs.Ytaljcpoopmedmaa.Ev
open Go Go.RowKit Go.Proofs.Ytaljcpoopmedmaa.Ms
set_option linter.all false
set_option maxRecDepth 100000
set_option maxHeartbeats 2000000
noncomputable def qjg (size:Nat) (x y:Option AV):Option AV:=ob x (fun v=>jc7 v
 (ob (ob y (fun x=>jmt x (fun _ n=>Int.casesOn (motive:=fun _=>Option Nat) n (fun m=>some m) (fun _=>none)))) (fun hi'=>oif (Nat.beq (Nat.add hi' 0) 0) (some (AV.s .nilSlice)) none))
 (fun b off len mc ex sz=>ob (ob y (fun x=>jmt x (fun _ n=>Int.casesOn (motive:=fun _=>Option Nat) n (fun m=>some m) (fun _=>none)))) (fun hi' =>
  oif (Nat.ble hi' mc) (oif (Nat.ble 0 hi') (oif (Nat.beq sz size) (some (AV.s (.slice b (Nat.add off (Nat.mul 0 size)) (Nat.sub hi' 0) (Nat.sub mc 0) ex sz))) none) none) none))
 (fun rows=>ob (ob y (fun x=>jmt x (fun _ n=>Int.casesOn (motive:=fun _=>Option Nat) n (fun m=>some m) (fun _=>none)))) (fun hi' =>
  oif (Nat.ble hi' (jc1 rows)) (oif (Nat.ble 0 hi') (oif (j3g size rows) (ob (jbx (Nat.sub hi' 0) (jcb 0 rows)) (fun r=>some (AV.s (.lst r)))) none) none) none))
 (ob (ob y (fun x=>jmt x (fun _ n=>Int.casesOn (motive:=fun _=>Option Nat) n (fun m=>some m) (fun _=>none)))) (fun hi'=>oif (Nat.beq (Nat.add hi' 0) 0) (some (AV.s .emp)) none)))
theorem jh9 {st fr:List AV} {size:Nat} {x y:Od}:pop st fr (.slice size x none (some y))=qjg size (ev st fr x) (ev st fr y):=rfl
theorem qe1 {size b off len mc k:Nat} {ex:Bool} (hk:k<=mc):qjg size (some (AV.s (.slice b off len mc ex size))) (some (vi (k:Int)))=some (AV.s (.slice b off k mc ex size)):=by
 show oif (Nat.ble k mc) (oif (Nat.ble 0 k) (oif (Nat.beq size size) (some (AV.s (SV.slice b (Nat.add off (Nat.mul 0 size)) (Nat.sub k 0) (Nat.sub mc 0) ex size))) none) none) none=_
 rw [show Nat.ble k mc=true from Nat.ble_eq_true_of_le hk,show Nat.ble 0 k=true from Nat.ble_eq_true_of_le (Nat.zero_le _),Nat.beq_refl]
 show some (AV.s (SV.slice b (off+0*size) (k - 0) (mc - 0) ex size))=_
 simp
structure FS (h0 hi:Hp) (p:Nat) (w:Ms) (ns:List Nat) (L:List (Nat×AB)) (ns':List Nat):Prop where
 ok:Ok hi
 mr:MR tt hi p w ns'
 mv:Mv h0 hi ns ns'
 kp:∀ q∈L,hi.get q.1=some q.2/\h0.next<=q.1/\q.1<hi.next/\q.1∉ns'
section
variable {h0 hi:Hp} {p:Nat} {w:Ms} {ns ns':List Nat} {L:List (Nat×AB)}
theorem FS.pos (k:FS h0 hi p w ns L ns'):1<=hi.next:=by
 obtain ⟨⟨a,b,c,n1,n2,n3,h1,h2,h3,h4,e⟩,h5,h6⟩:=k.mr
 have:=h6 p (by simp [e]);omega
theorem FS.sub {L':List (Nat×AB)} (k:FS h0 hi p w ns L ns') (h:∀ q∈L',q∈L):FS h0 hi p w ns L' ns':=⟨k.ok,k.mr,k.mv,fun q hq=>k.kp q (h q hq)⟩
theorem FS.step {h2:Hp} {w2:Ms} {ns2:List Nat} (k:FS h0 hi p w ns L ns') (m:MR tt h2 p w2 ns2) (v:Mv hi h2 ns' ns2):FS h0 h2 p w2 ns L ns2 :=
 ⟨v.ok,m,k.mv.trans v,fun q hq=>by
  obtain ⟨h1,h3,h4,h5⟩:=k.kp q hq
  refine ⟨(v.keep _ h4 h5).trans h1,h3,Nat.lt_of_lt_of_le h4 v.nx,fun h6=>?_⟩
  rcases v.new _ h6 with h7 | h7
  ·exact h5 h7
  ·omega⟩
theorem FS.step1 {h2:Hp} {w2:Ms} {ns2:List Nat} {b:Nat} {a:AB} (k:FS h0 hi p w ns ((b,a)::L) ns') (hb:∀ q∈L,q.1≠b) (m:MR tt h2 p w2 ns2) (v:Mv hi h2 (ns'++[b]) ns2):FS h0 h2 p w2 ns L ns2:=by
 have hb0:=k.kp (b,a) (by simp)
 have hmv:=k.mv
 refine ⟨v.ok,m,⟨v.ok,Nat.le_trans hmv.nx v.nx,fun n hn=>?_,fun n h1 h3=>?_⟩,fun q hq=>?_⟩
 ·rcases v.new n hn with h1 | h1
  ·rcases List.mem_append.1 h1 with h3 | h3
   ·exact hmv.new n h3
   ·obtain rfl:=List.mem_singleton.1 h3;exact .inr hb0.2.1
  ·exact .inr (Nat.le_trans hmv.nx h1)
 ·rw [v.keep n (Nat.lt_of_lt_of_le h1 hmv.nx) (fun h5=>by
   rcases List.mem_append.1 h5 with h6 | h6
   ·rcases hmv.new n h6 with h7 | h7
    ·exact h3 h7
    ·omega
   ·obtain rfl:=List.mem_singleton.1 h6;have:=hb0.2.1;simp only at this;omega)]
  exact hmv.keep n h1 h3
 ·obtain ⟨h1,h3,h4,h5⟩:=k.kp q (List.mem_cons_of_mem _ hq)
  refine ⟨(v.keep _ h4 (fun h6=>by
   rcases List.mem_append.1 h6 with h7 | h7
   ·exact h5 h7
   ·exact hb q hq (List.mem_singleton.1 h7))).trans h1,h3,Nat.lt_of_lt_of_le h4 v.nx,fun h6=>?_⟩
  rcases v.new _ h6 with h7 | h7
  ·rcases List.mem_append.1 h7 with h8 | h8
   ·exact h5 h8
   ·exact hb q hq (List.mem_singleton.1 h8)
  ·omega
theorem FS.push {a:AB} (k:FS h0 hi p w ns L ns'):FS h0 (hi.push a) p w ns ((hi.next,a)::L) ns':=by
 have g:∀ n,n<hi.next->(hi.push a).get n=hi.get n:=fun n hn=>by rw [jav k.ok,if_neg (by omega)]
 have hmv:=k.mv
 have hnx:=hmv.nx
 refine ⟨jac k.ok,k.mr.keep (fun n hn=>g n (k.mr.lt n hn).2) (by rw [Hp.next_push];omega),⟨jac k.ok,by rw [Hp.next_push];omega,hmv.new,fun n h1 h3=>(g n (by omega)).trans (hmv.keep n h1 h3)⟩,fun q hq=>?_⟩
 rcases List.mem_cons.1 hq with rfl | hq
 ·exact ⟨by rw [jav k.ok,if_pos rfl],hnx,by rw [Hp.next_push];omega,fun h1=>by have:=(k.mr.lt _ h1).2;omega⟩
 ·obtain ⟨h1,h3,h4,h5⟩:=k.kp q hq
  exact ⟨(g _ h4).trans h1,h3,by rw [Hp.next_push];omega,h5⟩
theorem FS.put {b:Nat} {a a':AB} (k:FS h0 hi p w ns ((b,a)::L) ns') (hb:∀ q∈L,q.1≠b) (hpos:1<=h0.next):FS h0 (hi.put b (some a')) p w ns ((b,a')::L) ns':=by
 obtain ⟨h1,h3,h4,h5⟩:=k.kp (b,a) (by simp)
 have hb1:1<=b:=Nat.le_trans hpos h3
 have g:∀ n,n≠b->(hi.put b (some a')).get n=hi.get n:=fun n hn=>by rw [jai k.ok hb1,if_neg hn]
 have hmv:=k.mv
 have hnx:=hmv.nx
 simp only at h3 h5
 refine ⟨jad k.ok,k.mr.keep (fun n hn=>g n (fun e=>h5 (e▸hn))) (by rw [Hp.next_put];omega),⟨jad k.ok,by rw [Hp.next_put];omega,hmv.new,fun n h6 h7=>(g n (by omega)).trans (hmv.keep n h6 h7)⟩,fun q hq=>?_⟩
 rcases List.mem_cons.1 hq with rfl | hq
 ·exact ⟨by rw [jai k.ok hb1,if_pos rfl],h3,by rw [Hp.next_put];exact h4,h5⟩
 ·obtain ⟨h6,h7,h8,h9⟩:=k.kp q (List.mem_cons_of_mem _ hq)
  exact ⟨(g _ (hb q hq)).trans h6,h7,by rw [Hp.next_put];exact h8,h9⟩
theorem FS.cells (k:FS h0 hi p w ns L ns'):∃ a b c,hi.get p=some (.arr [si w.m.1,si w.m.2,a,b,si w.cur,c,si w.all] tt.mas)/\jvo (.s c)=some (vi w.known.length)/\jvo (.s b)=some (vi w.blocks.length):=by
 obtain ⟨⟨a,b,c,n1,n2,n3,h1,h2,h3,h4,e⟩,h5,h6⟩:=k.mr
 exact ⟨a,b,c,h1,h4.len,h3.len⟩
theorem FS.setcur {a b c:SV} {j:Nat} (k:FS h0 hi p w ns L ns') (hg:hi.get p=some (.arr [si w.m.1,si w.m.2,a,b,si w.cur,c,si w.all] tt.mas)):FS h0 (hi.put p (some (.arr [si w.m.1,si w.m.2,a,b,si j,c,si w.all] tt.mas))) p { w with cur:=j } ns L ns':=by
 obtain ⟨⟨a',b',c',n1,n2,n3,h1,h2,h3,h4,e⟩,h5,h6⟩:=id k.mr
 subst e
 rw [h1] at hg
 simp only [Option.some.injEq,AB.arr.injEq,List.cons.injEq] at hg
 obtain ⟨⟨_,_,rfl,rfl,_,rfl,_⟩,_⟩:=hg
 have hp:=h6 p (by simp)
 refine k.step (MR.mk_put (w':={ w with cur:=j }) k.ok h2 h3 h4 h5 h6) ⟨jad k.ok,by rw [Hp.next_put];omega,fun n hn=>.inl hn,fun n h7 h8=>?_⟩
 rw [jai k.ok hp.1,if_neg (fun e=>h8 (by simp [e]))]
end
section
variable {h0 hi:Hp} {p:Nat} {w:Ms} {ns ns':List Nat} {L:List (Nat×AB)} {N:Nat}
theorem jiw (k:FS h0 hi p w ns L ns') (wk:Wok w N) (hN:N<=79000) {pc:Pc} (pin:Pin pc):WC F2 32 [.s (.ptr p 0),.agg (jb5 pc)] hi (fun v h'=>v=.tup []/\∃ ns'',FS h0 h' p (jch w pc) ns L ns'') :=
 WC.imp (qbo jh8 k.ok k.mr wk (by omega) pc pin) (fun v h' ⟨e,ns2,m,mv⟩=>⟨e,ns2,k.step m mv⟩)
theorem jgw (k:FS h0 hi p w ns L ns') (wk:Wok w N) (hN:N<=79000) {cls:Nat} (hc:cls<2) {pc:Pc} (pin:Pin pc):WC F2 49 [.s (.ptr p 0),vi cls,.agg (jb5 pc)] hi (fun v h'=>v=vi (jaf w cls pc).1/\∃ ns'',FS h0 h' p (jaf w cls pc).2 ns L ns'') :=
 WC.imp (j59 jh8 k.ok k.mr wk hN cls hc pc pin) (fun v h' ⟨e,ns2,m,mv⟩=>⟨e,ns2,k.step m mv⟩)
theorem jki (k:FS h0 hi p w ns L ns') (wk:Wok w N) (hN:N<=79000):WC F2 29 [.s (.ptr p 0),.s .nilSlice] hi (fun v h'=>v=vi w.blocks.length/\∃ ns'',FS h0 h' p (jag w []) ns L ns'') :=
 WC.imp (jty k.ok k.mr wk.nv wk.nb hN (cs:=[]) (nsx:=[]) Sl.nil (by simp) (by simp) (by simp)) (fun v h' ⟨e,ns2,m,mv⟩=>⟨e,ns2,k.step m mv⟩)
theorem j6c {hi:Hp} {b c d ty:Nat} (h:hi.get b=some (.arr [si c,si d] ty)):Sl hi ty 1 true EI (.slice b 0 2 2 true 1) [c,d] [b] :=
 .inr ⟨by simp,b,[[si c],[si d]],[],rfl,h,by
  have:=Rows.cons (sz:=1) (E:=EI) (row:=[si c]) (a:=c) (ns:=[]) rfl ⟨rfl,rfl⟩ (Rows.cons (sz:=1) (E:=EI) (row:=[si d]) (a:=d) (ns:=[]) rfl ⟨rfl,rfl⟩ .nil)
  exact this,rfl⟩
theorem jwd {b c:Nat} (k:FS h0 hi p w ns ((b,.arr [si c,si (0:Nat)] 3)::L) ns') (wk:Wok w N) (hN:N<=79000) (hc:c<2):WC F2 29 [.s (.ptr p 0),.s (.slice b 0 2 2 true 1)] hi (fun v h'=>v=vi w.blocks.length/\∃ ns'',FS h0 h' p (jag w [c,0]) ns L ns''):=by
 obtain ⟨h1,h2,h3,h4⟩:=k.kp _ (List.mem_cons_self ..)
 refine WC.imp (jty k.ok k.mr wk.nv wk.nb hN (cs:=[c,0]) (nsx:=[b]) (j6c h1) (by simp) (fun x hx=>?_) (fun n hn=>?_)) (fun v h' ⟨e,ns2,m,mv⟩=>⟨e,ns2,(k.step m mv).sub (fun q hq=>List.mem_cons_of_mem _ hq)⟩)
 ·simp at hx;omega
 ·obtain rfl:=List.mem_singleton.1 hn;exact ⟨h3,h4⟩
theorem jmz (k:FS h0 hi p w ns L ns') (wk:Wok w N) (hN:N<=79000) {a to:Nat} (ha:a<w.blocks.length):WC F2 48 [.s (.ptr p 0),vi a,vi to,.s .nilSlice] hi (fun v h'=>v=.tup []/\∃ ns'',FS h0 h' p (jaw w a to []) ns L ns'') :=
 WC.imp (j58 jh8 k.ok k.mr wk (by omega) (args:=[]) (n1:=[]) ha Sl.nil .nil (by simp)) (fun v h' ⟨e,ns2,m,mv⟩=>⟨e,ns2,k.step m (by simpa using mv)⟩)
theorem jtz {b x y:Nat} (k:FS h0 hi p w ns ((b,.arr [si x,si y] 3)::L) ns') (hb:∀ q∈L,q.1≠b) (hpos:1<=h0.next) (wk:Wok w N) (hN:N<=79000) {a to:Nat} (ha:a<w.blocks.length):WC F2 48 [.s (.ptr p 0),vi a,vi to,.s (.slice b 0 2 2 true 1)] hi (fun v h'=>v=.tup []/\∃ ns'',FS h0 h' p (jaw w a to [x,y]) ns L ns''):=by
 obtain ⟨h1,h2,h3,h4⟩:=k.kp _ (List.mem_cons_self ..)
 refine WC.imp (j58 jh8 k.ok k.mr wk (by omega) (args:=[x,y]) (n1:=[b]) ha (j6c h1) (by simp) (fun n hn=>?_)) (fun v h' ⟨e,ns2,m,mv⟩=>⟨e,ns2,k.step1 hb m mv⟩)
 obtain rfl:=List.mem_singleton.1 hn
 simp only at h2 h3
 exact ⟨by omega,h3,h4⟩
theorem FS.setknown {a b y:SV} {n1 n2 n3 n3':List Nat} {kn:List Nat} (k:FS h0 hi p w ns L (p::(n1++(n2++n3)))) (hv:Sl hi tt.int 1 false EI a w.values n1) (hb:Sl hi tt.blk 3 false (EB tt hi) b w.blocks n2) {h2:Hp} (ok2:Ok h2) (nx:hi.next<=h2.next)
 (kp:∀ n,n<hi.next->n∉n3->h2.get n=hi.get n) (hk:Sl h2 tt.int 1 false EI y kn n3') (nd:n3'.Nodup) (hn:∀ n∈n3',(n∈n3∨hi.next<=n)/\n<h2.next) :
 FS h0 (h2.put p (some (.arr [si w.m.1,si w.m.2,a,b,si w.cur,y,si w.all] tt.mas))) p { w with known:=kn } ns L (p::(n1++(n2++n3'))):=by
 have hd:=k.mr.nodup
 have lt:=k.mr.lt
 have hdt:=(List.nodup_cons.1 hd).2
 have hd1:=List.nodup_append.1 hdt
 have hd2:=List.nodup_append.1 hd1.2.1
 have q1:∀ n∈n1,h2.get n=hi.get n:=fun n hm=>kp n (lt n (by simp [hm])).2 (fun h3=>hd1.2.2 n hm n (by simp [h3]) rfl)
 have q2:∀ n∈n2,h2.get n=hi.get n:=fun n hm=>kp n (lt n (by simp [hm])).2 (fun h3=>hd2.2.2 n hm n h3 rfl)
 have nd':(n1++(n2++n3')).Nodup:=by
  have:=jg9 (A:=n1++n2) (ns:=n3) (B:=[]) (ns':=n3') (by simpa using hdt) nd (fun n hm=>by
   rcases (hn n hm).1 with h3 | h3
   ·exact .inl h3
   ·exact .inr (fun h4=>by have:=(lt n (by simp at h4 ⊢;exact .inr h4)).2;omega))
  simpa using this
 have u:=MR.upd (t:=tt) (w':={ w with known:=kn }) hd lt k.pos ok2 nx (hv.keep q1) (hb.imp q2 (fun row a ms hm k=>k.keep (fun n hn=>q2 n (hm n hn)))) hk nd' (fun n hm=>by
  rcases List.mem_append.1 hm with h3 | h3
  ·exact ⟨.inl (by simp [h3]),by have:=(lt n (by simp [h3])).2;omega⟩
  ·rcases List.mem_append.1 h3 with h4 | h4
   ·exact ⟨.inl (by simp [h4]),by have:=(lt n (by simp [h4])).2;omega⟩
   ·exact ⟨(hn n h4).1.imp (fun h5=>by simp [h5]) id,(hn n h4).2⟩) (fun n h3 h4=>kp n h3 (fun h5=>h4 (by simp [h5])))
 exact k.step u.1 u.2
theorem j0r {rows:List (List SV)} {l ns:List Nat} (k:Rows 1 EI rows l ns):rows=l.map (fun (n:Nat)=>[si (n:Int)])/\ns=[]:=by
 induction k with
 | nil=>exact ⟨rfl,rfl⟩
 | cons h1 h2 _ ih =>
  obtain ⟨rfl,rfl⟩:=h2
  obtain ⟨rfl,rfl⟩:=ih
  exact ⟨rfl,rfl⟩
theorem qe2:∀ (l:List Nat),Rows 1 EI (l.map (fun (n:Nat)=>[si (n:Int)])) l []
 | []=>.nil
 | a::l=>by
  have:=Rows.cons (sz:=1) (E:=EI) (row:=[si a]) (a:=a) (ns:=[]) rfl ⟨rfl,rfl⟩ (qe2 l)
  exact this
theorem qad (l:List Nat):(l.map (fun (n:Nat)=>[si (n:Int)])).flatten=l.map (fun (n:Nat)=>si (n:Int)):=by
 induction l with
 | nil=>rfl
 | cons a l ih=>simp [ih]
theorem FS.take (k:FS h0 hi p w ns L ns') {j:Nat} (hj:1<=j) (hj2:j<=w.known.length) (hN:w.known.length<=100000):∃ a b c x y h2 ns2,hi.get p=some (.arr [si w.m.1,si w.m.2,a,b,si w.cur,c,si w.all] tt.mas)/\qjg 1 (some (.s c)) (some (vi (j:Int)))=some (.s x)/\jjk hi 3 1 8 (.s .nilSlice) (.s x)=some (.s y,h2)/\Ok h2/\h2.get p=hi.get p /\
 FS h0 (h2.put p (some (.arr [si w.m.1,si w.m.2,a,b,si w.cur,y,si w.all] tt.mas))) p { w with known:=w.known.take j } ns L ns2:=by
 obtain ⟨⟨a,b,c,n1,n2,n3,h1,h2,h3,h4,e⟩,h5,h6⟩:=id k.mr
 subst e
 rcases h4 with ⟨e,_,_⟩ | ⟨hne,bk,rows,nss,rfl,hg,hR,rfl⟩
 ·rw [e] at hj2;simp at hj2;omega
 ·obtain ⟨rfl,rfl⟩:=j0r hR
  have hl:(w.known.take j).length=j:=by rw [List.length_take];omega
  have hrd:rdB (hi.get bk) 0 ((w.known.take j).length*1)=some ((w.known.take j).map (fun (n:Nat)=>[si (n:Int)])).flatten:=by
   rw [hg,jfe]
   refine (ja1 _).2 ⟨?_,?_⟩
   ·rw [hl,qad];simp [jby];omega
   ·rw [hl,qad,qad,jby,Nat.mul_one,List.drop_zero,List.map_take]
  have hpos:=k.pos
  obtain ⟨h7,e7,ok7,n7,kp7,sl7⟩:=(Sl.nil (h:=hi) (ty:=3) (sz:=1) (ex:=false) (E:=EI)).app (bytes:=8) (b':=bk) (o':=0) (mc':=w.known.length) (ex':=false) (l':=w.known.take j) (ms:=[]) k.ok (by simp) hrd (qe2 _) (by intro e;rw [e] at hl;simp at hl;omega) (by simp;omega) (by simp;omega)
  rw [hl] at e7 sl7
  have hp:=h6 p (by simp)
  have kp8:∀ n,n<hi.next->h7.get n=hi.get n:=fun n hn=>kp7 n (by omega) (by simp)
  refine ⟨a,b,_,_,_,h7,_,h1,qe1 hj2,e7,ok7,kp8 p hp.2,k.setknown h2 h3 ok7 (by omega) (fun n hn _=>kp8 n hn) (sl7 (E':=EI) (fun _ _ _ _ h=>h)) (by simp) (fun n hn=>?_)⟩
  simp at hn;subst hn
  exact ⟨.inr (Nat.le_refl _),by omega⟩
theorem FS.params (k:FS h0 hi p w ns L ns') {j:Nat} {blk:Blk} (hj:w.blocks[j]?=some blk) (hne:blk.params≠[]) (hN:w.known.length+blk.params.length<=100000):∃ a b c bb pp y h2 ns2,hi.get p=some (.arr [si w.m.1,si w.m.2,a,b,si w.cur,c,si w.all] tt.mas)/\jw3 3 (.s b) (vi (j:Int))=some (.s (.ptr bb (j*3)))/\rdB (hi.get bb) (j*3) 1=some [pp] /\
 jjk hi 3 1 8 (.s c) (.s pp)=some (.s y,h2)/\Ok h2/\h2.get p=hi.get p /\
 FS h0 (h2.put p (some (.arr [si w.m.1,si w.m.2,a,b,si w.cur,y,si w.all] tt.mas))) p { w with known:=w.known++blk.params } ns L ns2:=by
 obtain ⟨⟨a,b,c,n1,n2,n3,h1,h2,h3,h4,e⟩,h5,h6⟩:=id k.mr
 subst e
 obtain ⟨bb,row,ms,ix,hrd,hrl,⟨pp,ia,ee,na,nb,nc,rfl,sp,sI,sE,rfl⟩,hms,hbb⟩:=h3.at hj
 have rd1:=jgt (j:=0) (c:=pp) hrd rfl
 rcases sp with ⟨e,_,_⟩ | ⟨_,bp,rows,nss,rfl,hg,hR,rfl⟩
 ·exact absurd e hne
 ·obtain ⟨rfl,rfl⟩:=j0r hR
  have hl2:(blk.params.map (fun (n:Nat)=>[si (n:Int)])).flatten.length=blk.params.length:=by rw [qad,List.length_map]
  have hrd2:rdB (hi.get bp) 0 (blk.params.length*1)=some (blk.params.map (fun (n:Nat)=>[si (n:Int)])).flatten:=by
   rw [hg,jfe]
   refine (ja1 _).2 ⟨?_,?_⟩
   ·simp only [jby,List.drop_zero,hl2];omega
   ·simp only [jby,List.drop_zero]
    rw [List.take_of_length_le (by rw [hl2];omega)]
  obtain ⟨h7,e7,ok7,n7,kp7,sl7⟩:=h4.app (bytes:=8) (mc':=blk.params.length) (ex':=false) (l':=blk.params) (ms:=[]) k.ok (fun n hn=>h6 n (by simp [hn])) hrd2 (qe2 _) hne (by omega) (by omega)
  have hp:=h6 p (by simp)
  have hd:=h5
  have hdt:=(List.nodup_cons.1 hd).2
  have hd1:=List.nodup_append.1 hdt
  have hd2:=List.nodup_append.1 hd1.2.1
  have kp8:∀ n,n<hi.next->n∉n3->h7.get n=hi.get n:=fun n hn h8=>kp7 n (by omega) (fun b hb e=>h8 (e▸List.mem_of_mem_head? hb))
  have hp3:p∉n3:=fun h8=>(List.nodup_cons.1 hd).1 (by simp [h8])
  have hf:hi.next∉n3:=fun h8=>by have:=(h6 hi.next (by simp [h8])).2;omega
  refine ⟨a,b,c,bb,_,_,h7,_,h1,ix,rd1,e7,ok7,kp8 p hp.2 hp3,k.setknown h2 h3 ok7 (by omega) kp8 (sl7 (E':=EI) (fun _ _ _ _ h=>h)) (jb2 hd2.2.1 .nil (by simp) hf (by simp)) (fun n hn=>?_)⟩
  rcases List.mem_cons.1 hn with rfl | hn
  ·exact ⟨.inr (Nat.le_refl _),by omega⟩
  ·have h8:=List.mem_of_mem_tail (by simpa using hn)
   exact ⟨.inl h8,by have:=(h6 n (by simp [h8])).2;omega⟩
end
open Go Go.RowKit
def j6d:IC:=(.seq (.region [(qP (.mv (.g 0))),(qP (.mv (.g 16))),(qA (.load 7 true (.g 17))),(qA (.call 49 [(.l 2),(.l 1),(.l 0)])),(qQ 4 (.mv (.l 0)))]) (.seq (.region [(qP (.mv (.g 0))),(qA (.load 7 true (.g 17))),(qA (.call 49 [(.l 1),(qC 0),(.l 0)])),(qQ 3 (.mv (.l 0)))]) (.seq (.region [(qP (.mv (.g 0))),(qP (.mv (.g 8))),(qP (.mv (.g 5))),(qP (.mv (.g 4))),(qP (.mv (.g 3))),(qA (.bslice 3 1 [(.int .i64 0),(.int .i64 0)] 2 [(0,(1,(.l 1))),(1,(1,(.l 0)))])),(qA (.call 48 [(.l 5),(.l 4),(.l 3),(.l 0)]))]) (.region [(qP (.mv (.g 0))),(qP (.mv (.g 0))),(qP (.nchk (.l 0))),(qP (.fld 5 (.l 0))),(qA (.load 1 false (.l 0))),(qP (.mv (.g 2))),(qP (.slice 1 (.l 1) .none (.some (.l 0)))),(qA (.app 3 1 8 (.c (.s .nilSlice)) (.l 0))),(qP (.nchk (.l 7))),(qP (.fld 5 (.l 0))),(qA (.store 1 (.l 0) (.l 2)))]))))
def qbp:IC:=(.seq (.block 1 (.seq (.region [(qP (.mv (.g 12))),(qP (.ixs 1 (.g 9) (.g 12))),(qA (.load 1 false (.l 0))),(qQ 7 (.mv (.l 2))),(qQ 8 (.mv (.l 1)))]) (.seq (.region [(qP (.mv (.g 0))),(qP (.mv (.g 8))),(qP (.nchk (.l 1))),(qP (.fld 4 (.l 0))),(qA (.store 1 (.l 0) (.l 2)))]) (.seq (.region [(qP (.fld 2 (.g 17))),(qA (.load 1 false (.l 0))),(qP (.bin .add (.l 0) (qC 1))),(qP (.fld 2 (.g 17))),(qA (.store 1 (.l 0) (.l 1)))]) (.seq (.seq (.region [(qP (.mv (.g 7))),(qP (.bin .eq (.l 0) (qC 0))),(qP (.mv (.l 0))),(qR 0 false (.fld 6 (.g 17))),(qS 1 false (.load 1 false (.l 0))),(qS 2 false (.call 26 [(.l 0),(qC 2)])),(qR 3 false (.bin .eq (.l 0) (qC 1))),(qQ 6 (.pick (.l 4) (.c (.s (.bool true))) (.l 0)))]) (.cond (.g 6) (.seq (.region [(qP (.fld 1 (.g 17))),(qA (.load 1 false (.l 0))),(qP (.bin .add (.l 0) (qC 1))),(qP (.fld 1 (.g 17))),(qA (.store 1 (.l 0) (.l 1)))]) (.region [(qP (.mv (.g 0))),(qA (.load 7 true (.g 17))),(qA (.call 32 [(.l 1),(.l 0)]))])) .skip)) j6d))))) (.region [(qP (.bin .add (.g 12) (qC 1))),(qQ 12 (.mv (.l 0)))]))
def jwe:IC:=(.seq (.region [(qQ 10 (.bin .lt (.g 12) (.g 11)))]) (.seq (.cond (.g 10) .skip (.exit 0)) qbp))
def qh0:IC:=(.seq (.region [(qB 17 (.box 72 (.g 1)))]) (.seq (.region [(qP (.fld 4 (.g 17))),(qA (.load 1 false (.l 0))),(qA (.call 26 [(.l 0),(qC 2)])),(qQ 16 (.mv (.l 0)))]) (.seq (.region [(qP (.mv (.g 0))),(qA (.load 7 true (.g 17))),(qA (.call 32 [(.l 1),(.l 0)]))]) (.seq (.region [(qP (.mv (.g 0))),(qP (.nchk (.l 0))),(qP (.fld 4 (.l 0))),(qA (.load 1 false (.l 0))),(qQ 15 (.mv (.l 0)))]) (.seq (.region [(qP (.mv (.g 0))),(qP (.nchk (.l 0))),(qP (.fld 5 (.l 0))),(qA (.load 1 false (.l 0))),(qP (.len (.l 0))),(qQ 2 (.mv (.l 0)))]) (.seq (.region [(qP (.mv (.g 0))),(qA (.call 29 [(.l 0),(.c (.s .nilSlice))])),(qQ 14 (.mv (.l 0)))]) (.seq (.region [(qP (.mv (.g 0))),(qA (.call 29 [(.l 0),(.c (.s .nilSlice))])),(qQ 13 (.mv (.l 0)))]) (.seq (.region [(qP (.mv (.g 0))),(qP (.mv (.g 16))),(qA (.bslice 3 1 [(.int .i64 0),(.int .i64 0)] 2 [(0,(1,(.l 0))),(1,(1,(qC 0)))])),(qA (.call 29 [(.l 2),(.l 0)])),(qQ 5 (.mv (.l 0)))]) (.seq (.region [(qP (.mv (.g 0))),(qP (.mv (.g 15))),(qP (.mv (.g 14))),(qA (.call 48 [(.l 2),(.l 1),(.l 0),(.c (.s .nilSlice))]))]) (.seq (.region [(qP (.mv (.g 0))),(qP (.mv (.g 15))),(qP (.mv (.g 13))),(qA (.call 48 [(.l 2),(.l 1),(.l 0),(.c (.s .nilSlice))]))]) (.seq (.seq (.region [(qP (.mv (.g 14))),(qP (.mv (.g 13))),(qB 9 (.bslice 3 1 [(.int .i64 0),(.int .i64 0)] 2 [(0,(1,(.l 1))),(1,(1,(.l 0)))])),(qQ 11 (.len (.l 0))),(qQ 12 (.mv (qC 0)))]) (.block 0 (.loop jwe))) (.seq (.region [(qP (.mv (.g 0))),(qP (.mv (.g 5))),(qP (.nchk (.l 1))),(qP (.fld 4 (.l 0))),(qA (.store 1 (.l 0) (.l 2)))]) (.draw [((qP (.mv (.g 0))),.none),((qP (.mv (.g 0))),.none),((qP (.nchk (.l 0))),.none),((qP (.fld 5 (.l 0))),.none),((qA (.load 1 false (.l 0))),(.some [])),((qP (.mv (.g 0))),.none),((qP (.nchk (.l 0))),.none),((qP (.fld 2 (.l 0))),.none),((qP (.fld 1 (.l 0))),.none),((qA (.load 1 false (.l 0))),(.some [4])),((qP (.mv (.g 5))),.none),((qP (.ixs 3 (.l 1) (.l 0))),.none),((qP (.fld 0 (.l 0))),.none),((qA (.load 1 false (.l 0))),(.some [8])),((qA (.app 3 1 8 (.l 9) (.l 0))),.none),((qP (.nchk (.l 14))),.none),((qP (.fld 5 (.l 0))),.none),((qA (.store 1 (.l 0) (.l 2))),.none)])))))))))))))
theorem ql7:T 30=some (.mk qh0 2 16 []):=by kernel_rfl
attribute [local go_sem] Int.cast_ofNat_Int Int.natCast_zero Int.natCast_one decide_eq_true_eq decide_eq_false_iff_not Bool.false_eq_true and_true true_and List.cons_append List.nil_append reduceCtorEq decide_true decide_false Bool.not_true Bool.not_false Nat.add_zero Nat.zero_add Option.some.injEq Bool.true_eq_false not_true_eq_false not_false_eq_true Hp.next_push Hp.next_put Nat.add_assoc Int.reduceToNat Nat.reduceAdd Nat.reduceMul Nat.reduceEqDiff Int.reduceEq Int.reduceLT Int.reduceLE Int.reduceNeg Int.reduceAdd Int.reduceSub Int.reduceMul Int.reduceNe
attribute [local go_sem ↓] reduceIte
theorem FS.refl {h:Hp} {p:Nat} {w:Ms} {ns:List Nat} (ok:Ok h) (mr:MR tt h p w ns):FS h h p w ns [] ns:=⟨ok,mr,Mv.refl ok,by simp⟩
theorem no2 {f:FuncId} (h1:S1 f=false) (h2:Nat.beq f jf7.f=false) {vs:List AV} {h:Hp}:jdy F2 f vs h=none:=(j0p h2).trans ((ja4 h1).trans qkd)
theorem jea (w:Ms) (p:Pc):w.known.length<=(jch w p).known.length/\(jch w p).blocks.length=w.blocks.length:=by
 obtain ⟨cs,h1,h2,h3⟩:=jkh w p
 refine ⟨?_,?_⟩
 ·show _<=((jay w p).2.known++_).length
  rw [h3];simp
 ·show (jat (jay w p).2.blocks _ _).length=_
  unfold jat;rw [List.length_modify,h3]
theorem jcz (w:Ms) (c:Nat) (p:Pc):w.known.length<=(jaf w c p).2.known.length/\(jaf w c p).2.blocks.length=w.blocks.length:=by
 unfold jaf
 split
 ·exact ⟨Nat.le_refl _,rfl⟩
 ·exact jea _ _
theorem jb3 (w:Ms) (k to:Nat) (l:List Nat):(jaw w k to l).known=w.known/\(jaw w k to l).blocks.length=w.blocks.length:=by
 unfold jaw
 exact ⟨rfl,by simp⟩
theorem Wok.setcur {w:Ms} {N j:Nat} (wk:Wok w N) (h:j<w.blocks.length):Wok { w with cur:=j } N:=⟨wk.m1,wk.m2,wk.vals,wk.known,h,wk.nv,wk.nb,wk.nk,wk.ni,wk.na⟩
theorem Wok.take {w:Ms} {N j:Nat} (wk:Wok w N):Wok { w with known:=w.known.take j } N:=⟨wk.m1,wk.m2,wk.vals,fun v hv=>wk.known v (List.mem_of_mem_take hv),wk.cur,wk.nv,wk.nb,by have:=wk.nk;simp;omega,wk.ni,wk.na⟩
theorem jt0 {a:Int} (h1:-9223372036854775808<=a) (h2:a<=9223372036854775807):w64 (a+1)=inc a:=by
 unfold inc
 split
 ·rename_i h;subst h;rfl
 ·exact jah (by omega) (by omega)
theorem qbq {a:Int} (h1:-9223372036854775808<=a) (h2:a<=9223372036854775807):-9223372036854775808<=inc a/\inc a<=9223372036854775807:=by
 unfold inc
 split<;>omega
theorem Wok.new {w:Ms} {N:Nat} (wk:Wok w N) (cls:Nat) (p:Pc):Wok (jaf w cls p).2 (N+10):=Wok.newest jh8 wk cls p
def jy3 (w:Ms) (cls before e k:Nat) (q:Pc):Ms :=
 let v:=jaf w cls q
 let z:=jaf v.2 0 q
 let w:=jaw z.2 k e [v.1,z.1]
 { w with known:=w.known.take before }
theorem Wok.tail {w:Ms} {N:Nat} (wk:Wok w N) (cls before e k:Nat) (q:Pc):Wok (jy3 w cls before e k q) (N+21) :=
 ((((wk.new cls q).new 0 q).edge k e _).take)
theorem jy4 {h0 hi:Hp} {p bx:Nat} {w:Ms} {ns ns':List Nat} {L:List (Nat×AB)} {q:Pc} (K:FS h0 hi p w ns ((bx,.arr (jb5 q) 72)::L) ns') (hL:∀ r∈L,r.1≠bx) (hpos:1<=h0.next) {N:Nat} (wk:Wok w N) (hN:N<=70000) (pin:Pin q) {cls before e k:Nat} (hc:cls<2) (hk:k<w.blocks.length) (hb1:1<=before) (hb2:before<=w.known.length)
 {x1 x3 x4 x6 x7 x9 x10 x11 x12 x13 x14 x15:AV} {Q:Ex->St->Prop} (hQ:∀ hj ns'' x3 x4,FS h0 hj p (jy3 w cls before e k q) ns ((bx,.arr (jb5 q) 72)::L) ns''->Q .normal (.mk [.s (.ptr p 0),x1,vi before,x3,x4,vi e,x6,x7,vi k,x9,x10,x11,x12,x13,x14,x15,vi cls,.s (.ptr bx 0)] hj)) :
 W F2 j6d (.mk [.s (.ptr p 0),x1,vi before,x3,x4,vi e,x6,x7,vi k,x9,x10,x11,x12,x13,x14,x15,vi cls,.s (.ptr bx 0)] hi) Q:=by
 unfold j6d
 have g1:=jcz w cls q
 have ok1:=K.ok
 have hx1:hi.get bx=some (.arr (jb5 q) 72):=(K.kp _ (List.mem_cons_self ..)).1
 unfold jb5 at hx1
 simp (disch:=first|omega|simp only[List.length]|apply_rules[jaa,jac,jad]) only [go_sem,hx1]
 refine WC.imp (jgw K wk (by omega) hc (pc:=q) pin) ?_
 rintro _ h2 ⟨rfl,ns2,K2⟩
 have wk2:=wk.new cls q
 have g2:=jcz (jaf w cls q).2 0 q
 have ok2:=K2.ok
 have hx2:h2.get bx=some (.arr (jb5 q) 72):=(K2.kp _ (List.mem_cons_self ..)).1
 unfold jb5 at hx2
 simp (disch:=first|omega|simp only[List.length]|apply_rules[jaa,jac,jad]) only [go_sem,hx2]
 refine WC.imp (jgw K2 wk2 (by omega) (cls:=0) (by omega) (pc:=q) pin) ?_
 rintro _ h3 ⟨rfl,ns3,K3⟩
 have wk3:=wk2.new 0 q
 have ok3:=K3.ok
 simp (disch:=first|omega|simp only[List.length]|apply_rules[jaa,jac,jad]) only [go_sem]
 have K4:=K3.push (a:=.arr [si ((jaf w cls q).1:Nat),si ((jaf (jaf w cls q).2 0 q).1:Nat)] 3)
 refine WC.imp (jtz K4 (fun r hr=>by have:=(K3.kp r hr).2.2.1;omega) hpos wk3 (by omega) (a:=k) (to:=e) (by omega)) ?_
 rintro _ h5 ⟨rfl,ns5,K5⟩
 have wk5:=wk3.edge k e [(jaf w cls q).1,(jaf (jaf w cls q).2 0 q).1]
 have ok5:=K5.ok
 have g5:=jb3 (jaf (jaf w cls q).2 0 q).2 k e [(jaf w cls q).1,(jaf (jaf w cls q).2 0 q).1]
 obtain ⟨a,b,c,x,y,h6,ns6,hg,e1,e2,ok6,hp6,K6⟩:=K5.take hb1 (by rw [g5.1];omega) (by have:=wk5.nk;omega)
 have hg6:=hp6.trans hg
 simp (disch:=first|omega|simp only[List.length]|apply_rules[jaa,jac,jad]) only [go_sem,hg,e1,e2,hg6,jh9]
 exact hQ _ _ _ _ K6
theorem Pin.incA {q:Pc} (pin:Pin q):Pin { q with a:=inc q.a }:=⟨pin.kind,pin.op,qbq pin.a.1 pin.a.2,pin.b,pin.c,pin.limits,pin.flags⟩
theorem Pin.incO {q:Pc} (pin:Pin q):Pin { q with op:=inc q.op }:=⟨pin.kind,qbq pin.op.1 pin.op.2,pin.a,pin.b,pin.c,pin.limits,pin.flags⟩
theorem j6e {h0 hi:Hp} {p bx b9 k0 k1:Nat} {w:Ms} {ns ns':List Nat} {q:Pc} (K:FS h0 hi p w ns [(bx,.arr (jb5 q) 72),(b9,.arr [si (k0:Nat),si (k1:Nat)] 3)] ns') (hb:b9≠bx) (hpos:1<=h0.next) {N:Nat} (wk:Wok w N) (hN:N<=60000) (pin:Pin q) {cls before e k i:Nat} (hi2:i<2) (hget:[k0,k1][i]?=some k) (hc:cls<2) (hk:k<w.blocks.length) (hb1:1<=before) (hb2:before<=w.known.length)
 {x1 x3 x4 x6 x7 x8 x10 x13 x14 x15:AV} {Q:Ex->St->Prop} (hQ:∀ hj ns'' x3 x4 x6 x7 x8 x10,FS h0 hj p (jhl q cls before e k (decide (i=0∨pk q.flags 2=1)) w).2 ns [(bx,.arr (jb5 (jhl q cls before e k (decide (i=0∨pk q.flags 2=1)) w).1) 72),(b9,.arr [si (k0:Nat),si (k1:Nat)] 3)] ns''->W F2 jwe.loop (.mk [.s (.ptr p 0),x1,vi before,x3,x4,vi e,x6,x7,x8,.s (.slice b9 0 2 2 true 1),x10,vi 2,vi (i+1:Nat),x13,x14,x15,vi cls,.s (.ptr bx 0)] hj) Q) :
 W F2 jwe.loop (.mk [.s (.ptr p 0),x1,vi before,x3,x4,vi e,x6,x7,x8,.s (.slice b9 0 2 2 true 1),x10,vi 2,vi i,x13,x14,x15,vi cls,.s (.ptr bx 0)] hi) Q:=by
 rw [jao]
 unfold jwe
 have hlt:(i:Int)<2:=by omega
 have kx:=K.kp _ (List.mem_cons_self ..)
 have k9:=K.kp (b9,.arr [si (k0:Nat),si (k1:Nat)] 3) (by simp)
 obtain ⟨ob1,orow,oms,oe1,oe2,oe3,⟨rfl,rfl⟩,oe5,oe6⟩:=(j6c k9.1).at hget
 obtain rfl:=List.mem_singleton.1 oe6
 obtain ⟨a,b,c,hg,kl,bl⟩:=K.cells
 have ok:=K.ok
 have hp:=K.mr.lt p (by obtain ⟨⟨_,_,_,_,_,_,_,_,_,_,e⟩,_,_⟩:=K.mr;simp [e])
 have hpm:p∈ns':=by obtain ⟨⟨_,_,_,_,_,_,_,_,_,_,e⟩,_,_⟩:=K.mr;simp [e]
 have hbp:bx≠p:=fun e=>kx.2.2.2 (e▸hpm)
 have K1:=K.setcur (j:=k) hg
 have wk1:=wk.setcur hk
 obtain ⟨hA,eA⟩:∃ hA,hA=hi.put p (some (.arr [si w.m.1,si w.m.2,a,b,si k,c,si w.all] tt.mas)):=⟨_,rfl⟩
 rw [←eA] at K1
 have K2:=K1.put (a':=.arr (jb5 { q with a:=inc q.a }) 72) (fun r hr=>by obtain rfl:=List.mem_singleton.1 hr;exact hb) hpos
 obtain ⟨hB,eB⟩:∃ hB,hB=hA.put bx (some (.arr (jb5 { q with a:=inc q.a }) 72)):=⟨_,rfl⟩
 rw [←eB] at K2
 have K3:=K2.put (a':=.arr (jb5 { q with a:=inc q.a,op:=inc q.op }) 72) (fun r hr=>by obtain rfl:=List.mem_singleton.1 hr;exact hb) hpos
 obtain ⟨hC,eC⟩:∃ hC,hC=hB.put bx (some (.arr (jb5 { q with a:=inc q.a,op:=inc q.op }) 72)):=⟨_,rfl⟩
 rw [←eC] at K3
 have okA:=K1.ok
 have okB:=K2.ok
 have okC:=K3.ok
 have xA:=(K1.kp _ (List.mem_cons_self ..)).1
 have xB:=(K2.kp _ (List.mem_cons_self ..)).1
 have xC:=(K3.kp _ (List.mem_cons_self ..)).1
 have hx:=kx.1
 unfold jb5 at xA xB xC hx
 have eA':hi.put p (some (.arr [si w.m.1,si w.m.2,a,b,si k,c,si w.all] tt.mas))=hA:=eA.symm
 have eB':hA.put bx (some (.arr [si q.kind,si q.op,si (inc q.a),si q.b,si q.c,si q.limits,si q.flags] 72))=hB:=eB.symm
 have eC':hB.put bx (some (.arr [si q.kind,si (inc q.op),si (inc q.a),si q.b,si q.c,si q.limits,si q.flags] 72))=hC:=eC.symm
 have ha:=jt0 pin.a.1 pin.a.2
 have ho:=jt0 pin.op.1 pin.op.2
 obtain ⟨⟨q1,q2⟩,⟨q3,q4⟩,⟨q5,q6⟩,⟨q7,q8⟩,⟨q9,q10⟩,⟨q11,q12⟩,⟨q13,q14⟩⟩:=id pin
 have hsucc:((i:Int)+1)=((i+1:Nat):Int):=by omega
 simp (disch:=first|omega|simp only[List.length]|apply_rules[jaa,jac,jad]) only [go_sem,eq_true hlt]
 unfold qbp
 by_cases hi0:i=0
 ·have hi0':(i:Int)=0:=by omega
  have hdec:decide (i=0∨pk q.flags 2=1)=true:=by simp [hi0]
  rw [hdec] at hQ
  simp (disch:=first|omega|simp only[List.length]|apply_rules[jaa,jac,jad]) only [go_sem,oe1,oe2,hg,eA',xA,ha,eB',xB,ho,eC',xC,eq_true hi0']
  refine WC.imp (jiw K3 wk1 (by omega) (pc:={ q with a:=inc q.a,op:=inc q.op }) pin.incA.incO) ?_
  rintro _ h2 ⟨rfl,ns2,K4⟩
  have g4:=jea { w with cur:=k } { q with a:=inc q.a,op:=inc q.op }
  have wk4:=wk1.lay { q with a:=inc q.a,op:=inc q.op }
  simp (disch:=first|omega|simp only[List.length]|apply_rules[jaa,jac,jad]) only [go_sem]
  refine jy4 K4 (fun r hr=>by obtain rfl:=List.mem_singleton.1 hr;exact hb) hpos wk4 (by omega) pin.incA.incO hc (by rw [g4.2];exact hk) hb1 (Nat.le_trans hb2 g4.1) (fun hj ns'' y3 y4 K5=>?_)
  simp (disch:=first|omega|simp only[List.length]|apply_rules[jaa,jac,jad]) only [go_sem,jah,hsucc]
  exact hQ hj ns'' _ _ _ _ _ _ K5
 ·have hi0':¬ (i:Int)=0:=by omega
  by_cases hf:pk q.flags 2=1
  ·have hf':((pk q.flags 2:Nat):Int)=1:=by omega
   have hdec:decide (i=0∨pk q.flags 2=1)=true:=by simp [hf]
   rw [hdec] at hQ
   simp (disch:=first|omega|simp only[List.length]|apply_rules[jaa,jac,jad]) only [go_sem,jfp,jfq,jfr,jfs,jft,jbv,jam,jaj,ja0 jh8,oe1,oe2,hg,eA',xA,ha,eB',xB,ho,eC',xC,eq_false hi0',eq_true hf']
   refine WC.imp (jiw K3 wk1 (by omega) (pc:={ q with a:=inc q.a,op:=inc q.op }) pin.incA.incO) ?_
   rintro _ h2 ⟨rfl,ns2,K4⟩
   have g4:=jea { w with cur:=k } { q with a:=inc q.a,op:=inc q.op }
   have wk4:=wk1.lay { q with a:=inc q.a,op:=inc q.op }
   simp (disch:=first|omega|simp only[List.length]|apply_rules[jaa,jac,jad]) only [go_sem]
   refine jy4 K4 (fun r hr=>by obtain rfl:=List.mem_singleton.1 hr;exact hb) hpos wk4 (by omega) pin.incA.incO hc (by rw [g4.2];exact hk) hb1 (Nat.le_trans hb2 g4.1) (fun hj ns'' y3 y4 K5=>?_)
   simp (disch:=first|omega|simp only[List.length]|apply_rules[jaa,jac,jad]) only [go_sem,jah,hsucc]
   exact hQ hj ns'' _ _ _ _ _ _ K5
  ·have hf':¬ ((pk q.flags 2:Nat):Int)=1:=by omega
   have hdec:decide (i=0∨pk q.flags 2=1)=false:=by simp [hf,hi0]
   rw [hdec] at hQ
   simp (disch:=first|omega|simp only[List.length]|apply_rules[jaa,jac,jad]) only [go_sem,jfp,jfq,jfr,jfs,jft,jbv,jam,jaj,ja0 jh8,oe1,oe2,hg,eA',xA,ha,eB',xB,eq_false hi0',eq_false hf']
   refine jy4 K2 (fun r hr=>by obtain rfl:=List.mem_singleton.1 hr;exact hb) hpos wk1 (by omega) pin.incA hc hk hb1 hb2 (fun hj ns'' y3 y4 K5=>?_)
   simp (disch:=first|omega|simp only[List.length]|apply_rules[jaa,jac,jad]) only [go_sem,jah,hsucc]
   exact hQ hj ns'' _ _ _ _ _ _ K5
theorem qkl (q:Pc) (cls before e k:Nat) (lay:Bool) (w:Ms):(jhl q cls before e k lay w).1=if lay then { q with a:=inc q.a,op:=inc q.op } else { q with a:=inc q.a }:=by cases lay<;>rfl
theorem qae (q:Pc) (cls before e k:Nat) (lay:Bool) (w:Ms):(jhl q cls before e k lay w).2=jy3 (if lay then jch { w with cur:=k } { q with a:=inc q.a,op:=inc q.op } else { w with cur:=k }) cls before e k (if lay then { q with a:=inc q.a,op:=inc q.op } else { q with a:=inc q.a }):=by cases lay<;>rfl
theorem qe3 {q:Pc} (pin:Pin q) (cls before e k:Nat) (lay:Bool) (w:Ms):Pin (jhl q cls before e k lay w).1:=by
 rw [qkl];split
 ·exact pin.incA.incO
 ·exact pin.incA
theorem j0s {w:Ms} {cls before e k:Nat} {q:Pc} (h:before<=w.known.length):(jy3 w cls before e k q).known.length=before/\(jy3 w cls before e k q).blocks.length=w.blocks.length:=by
 have g1:=jcz w cls q
 have g2:=jcz (jaf w cls q).2 0 q
 have g5:=jb3 (jaf (jaf w cls q).2 0 q).2 k e [(jaf w cls q).1,(jaf (jaf w cls q).2 0 q).1]
 refine ⟨?_,?_⟩
 ·show ((jaw _ _ _ _).known.take before).length=_
  rw [g5.1,List.length_take];omega
 ·show (jaw _ _ _ _).blocks.length=_
  rw [g5.2,g2.2,g1.2]
theorem jt1 {q:Pc} {cls before e k:Nat} {lay:Bool} {w:Ms} (h:before<=w.known.length):(jhl q cls before e k lay w).2.known.length=before/\(jhl q cls before e k lay w).2.blocks.length=w.blocks.length:=by
 rw [qae]
 cases lay with
 | true =>
  have g:=jea { w with cur:=k } { q with a:=inc q.a,op:=inc q.op }
  have:=j0s (w:=jch { w with cur:=k } { q with a:=inc q.a,op:=inc q.op }) (cls:=cls) (before:=before) (e:=e) (k:=k) (q:={ q with a:=inc q.a,op:=inc q.op }) (Nat.le_trans h g.1)
  simp only [if_true]
  exact ⟨this.1,this.2.trans g.2⟩
 | false=>exact j0s (w:={ w with cur:=k }) h
theorem Wok.way {w:Ms} {N:Nat} (wk:Wok w N) (q:Pc) (cls before e k:Nat) (lay:Bool) (hk:k<w.blocks.length):Wok (jhl q cls before e k lay w).2 (N+31):=by
 rw [qae]
 cases lay with
 | true=>exact ((wk.setcur hk).lay { q with a:=inc q.a,op:=inc q.op }).tail cls before e k _
 | false =>
  have:=(wk.setcur hk).tail cls before e k { q with a:=inc q.a }
  exact ⟨this.m1,this.m2,this.vals,this.known,this.cur,Nat.le_trans this.nv (by omega),Nat.le_trans this.nb (by omega),Nat.le_trans this.nk (by omega),fun b hb=>by have:=this.ni b hb;omega,Nat.le_trans this.na (by omega)⟩
def pr (w:Ms) (j:Nat):Option (List Nat):=(w.blocks[j]?).map (·.params)
theorem qbr {l:List Blk} {k j:Nat} {f:Blk->Blk} (hf:∀ b,(f b).params=b.params):((l.modify k f)[j]?).map (·.params)=(l[j]?).map (·.params):=by
 rw [List.getElem?_modify]
 split
 ·cases l[j]? with
  | none=>rfl
  | some b=>exact congrArg some (hf b)
 ·simp
theorem qbs (w:Ms) (p:Pc) (j:Nat):pr (jch w p) j=pr w j:=by
 obtain ⟨cs,h1,h2,h3⟩:=jkh w p
 show ((jat (jay w p).2.blocks _ _)[j]?).map (·.params)=_
 unfold jat
 rw [qbr (f:=fun b:Blk=>{ b with instrs:=b.instrs++[(jay w p).1] }) (fun _=>rfl),h3]
 rfl
theorem jwf (w:Ms) (c:Nat) (p:Pc) (j:Nat):pr (jaf w c p).2 j=pr w j:=by
 unfold jaf
 split
 ·rfl
 ·exact qbs _ _ _
theorem jjg (w:Ms) (k to:Nat) (l:List Nat) (j:Nat):pr (jaw w k to l) j=pr w j:=qbr (fun _=>rfl)
theorem qe4 (w:Ms) (cls before e k:Nat) (q:Pc) (j:Nat):pr (jy3 w cls before e k q) j=pr w j:=(jjg _ _ _ _ j).trans ((jwf _ _ _ j).trans (jwf _ _ _ j))
theorem j0t (q:Pc) (cls before e k:Nat) (lay:Bool) (w:Ms) (j:Nat):pr (jhl q cls before e k lay w).2 j=pr w j:=by
 rw [qae,qe4]
 cases lay with
 | true=>exact qbs _ _ _
 | false=>rfl
theorem qe5 {h:Hp} {p:Nat} {w:Ms} {ns:List Nat} (ok:Ok h) (mr:MR tt h p w ns) {N:Nat} (wk:Wok w N) (hN:N<=50000) (pc:Pc) (pin:Pin pc) :
 WC F2 30 [.s (.ptr p 0),.agg (jb5 pc)] h (fun v h'=>v=.tup []/\∃ ns',MR tt h' p (jex w pc) ns'/\Mv h h' ns ns'):=by
 refine ja9 (no2 rfl rfl) ql7 rfl ?_
 unfold qh0
 have hpos:=ok.pos
 have K0:=(FS.refl ok mr).push (a:=.arr (jb5 pc) 72)
 have hx0:=(K0.kp _ (List.mem_cons_self ..)).1
 obtain ⟨bx,ebx⟩:∃ bx,h.next=bx:=⟨_,rfl⟩
 simp only [ebx] at K0 hx0
 have hl:=jfk (n:=pc.c) (m:=2) (by omega)
 have ok0:=K0.ok
 obtain ⟨⟨q1,q2⟩,⟨q3,q4⟩,⟨q5,q6⟩,⟨q7,q8⟩,⟨q9,q10⟩,⟨q11,q12⟩,⟨q13,q14⟩⟩:=id pin
 obtain ⟨hA,eA⟩:∃ hA,h.push (AB.arr (jb5 pc) 72)=hA:=⟨_,rfl⟩
 rw [eA] at K0 hx0 ok0
 unfold jb5 at eA hx0
 simp (disch:=first|omega|simp only[List.length]|apply_rules[jaa,jac,jad]) only [go_sem,jfp,jfq,jfr,jfs,jft,jbv,jam,jaj,ja0 jh8,jb5,eA,hx0,ebx]
 refine WC.imp (jiw K0 wk (by omega) (pc:=pc) pin) ?_
 rintro _ h1 ⟨rfl,ns1,K1⟩
 have wk1:=wk.lay pc
 have gl:=jea w pc
 have hne:=jpq (w:=w) (p:=pc)
 obtain ⟨w1,e1⟩:∃ w1,w1=jch w pc:=⟨_,rfl⟩
 rw [←e1] at K1 wk1 gl hne
 have hlen1:1<=w1.known.length:=List.length_pos_iff.2 hne
 obtain ⟨a,b,c,hg,kl,bl⟩:=K1.cells
 have ok1:=K1.ok
 simp (disch:=first|omega|simp only[List.length]|apply_rules[jaa,jac,jad]) only [go_sem,hg,kl]
 refine WC.imp (jki K1 wk1 (by omega)) ?_
 rintro _ h2 ⟨rfl,ns2,K2⟩
 have wk2:=wk1.block [] (by simp) (by simp)
 have ok2:=K2.ok
 simp (disch:=first|omega|simp only[List.length]|apply_rules[jaa,jac,jad]) only [go_sem]
 refine WC.imp (jki K2 wk2 (by omega)) ?_
 rintro _ h3 ⟨rfl,ns3,K3⟩
 have wk3:=wk2.block [] (by simp) (by simp)
 have ok3:=K3.ok
 simp (disch:=first|omega|simp only[List.length]|apply_rules[jaa,jac,jad]) only [go_sem]
 have K3':=K3.push (a:=.arr [si (pk pc.c 2:Nat),si (0:Nat)] 3)
 refine WC.imp (jwd K3' wk3 (by omega) (by omega)) ?_
 rintro _ h4 ⟨rfl,ns4,K4⟩
 have wk4:=wk3.block [pk pc.c 2,0] (by simp) (by simp;omega)
 have ok4:=K4.ok
 simp (disch:=first|omega|simp only[List.length]|apply_rules[jaa,jac,jad]) only [go_sem]
 have b1:(jag w1 []).blocks.length=w1.blocks.length+1:=by simp [jag]
 have b2:(jag (jag w1 []) []).blocks.length=w1.blocks.length+2:=by simp [jag]
 have b3:(jag (jag (jag w1 []) []) [pk pc.c 2,0]).blocks.length=w1.blocks.length+3:=by simp [jag]
 have p3:pr (jag (jag (jag w1 []) []) [pk pc.c 2,0]) (w1.blocks.length+2)=some (List.range' (w1.values.length) 2):=by
  unfold pr jag
  simp
 have hcur:=wk1.cur
 rw [b1,b2]
 have v3:(jag (jag (jag w1 []) []) [pk pc.c 2,0]).known=w1.known:=rfl
 generalize e4:jag (jag (jag w1 []) []) [pk pc.c 2,0]=w4 at *
 refine WC.imp (jmz K4 wk4 (by omega) (a:=w1.cur) (to:=w1.blocks.length) (by omega)) ?_
 rintro _ h5 ⟨rfl,ns5,K5⟩
 have wk5:=wk4.edge w1.cur w1.blocks.length []
 have g5:=jb3 w4 w1.cur w1.blocks.length []
 have ok5:=K5.ok
 simp (disch:=first|omega|simp only[List.length]|apply_rules[jaa,jac,jad]) only [go_sem]
 refine WC.imp (jmz K5 wk5 (by omega) (a:=w1.cur) (to:=w1.blocks.length+1) (by omega)) ?_
 rintro _ h6 ⟨rfl,ns6,K6⟩
 have wk6:=wk5.edge w1.cur (w1.blocks.length+1) []
 have g6:=jb3 (jaw w4 w1.cur w1.blocks.length []) w1.cur (w1.blocks.length+1) []
 have p6:pr (jaw (jaw w4 w1.cur w1.blocks.length []) w1.cur (w1.blocks.length+1) []) (w1.blocks.length+2)=some (List.range' (w1.values.length) 2):=by rw [jjg,jjg,p3]
 have ok6:=K6.ok
 obtain ⟨w6,e6⟩:∃ w6,w6=jaw (jaw w4 w1.cur w1.blocks.length []) w1.cur (w1.blocks.length+1) []:=⟨_,rfl⟩
 rw [←e6] at K6 wk6 g6 p6
 simp (disch:=first|omega|simp only[List.length]|apply_rules[jaa,jac,jad]) only [go_sem]
 have K7:=(K6.push (a:=.arr [si (w1.blocks.length:Nat),si (w1.blocks.length+1:Nat)] 3)).sub (L':=[(bx,.arr (jb5 pc) 72),(h6.next,.arr [si (w1.blocks.length:Nat),si (w1.blocks.length+1:Nat)] 3)]) (by simp)
 have hb:h6.next≠bx:=by have:=(K6.kp _ (List.mem_cons_self ..)).2.2.1;simp only at this;omega
 have hkn:w6.known.length=w1.known.length:=by rw [g6.1,g5.1,v3]
 refine j6e K7 hb hpos wk6 (by omega) pin (i:=0) (k:=w1.blocks.length) (by omega) rfl hl (by omega) hlen1 (by omega) (fun hj ns7 x3 x4 x6 x7 x8 x10 K8=>?_)
 have d0:decide (0=0∨pk pc.flags 2=1)=true:=by simp
 rw [d0] at K8
 have l8:=jt1 (q:=pc) (cls:=pk pc.c 2) (before:=w1.known.length) (e:=w1.blocks.length+2) (k:=w1.blocks.length) (lay:=true) (w:=w6) (by omega)
 have wk8:=wk6.way pc (pk pc.c 2) w1.known.length (w1.blocks.length+2) w1.blocks.length true (by omega)
 have pn8:=qe3 pin (pk pc.c 2) w1.known.length (w1.blocks.length+2) w1.blocks.length true w6
 have p8:=(j0t pc (pk pc.c 2) w1.known.length (w1.blocks.length+2) w1.blocks.length true w6 (w1.blocks.length+2)).trans p6
 have f8:(jhl pc (pk pc.c 2) w1.known.length (w1.blocks.length+2) w1.blocks.length true w6).1.flags=pc.flags:=rfl
 obtain ⟨x,ex⟩:∃ x,x=jhl pc (pk pc.c 2) w1.known.length (w1.blocks.length+2) w1.blocks.length true w6:=⟨_,rfl⟩
 rw [←ex] at K8 l8 wk8 pn8 p8 f8
 refine j6e K8 hb hpos wk8 (by omega) pn8 (i:=1) (k:=w1.blocks.length+1) (by omega) rfl hl (by omega) hlen1 (by omega) (fun hj9 ns9 y3 y4 y6 y7 y8 y10 K9=>?_)
 have d1:decide (1=0∨pk x.1.flags 2=1)=decide (pk pc.flags 2=1):=by rw [f8];simp
 rw [d1] at K9
 have l9:=jt1 (q:=x.1) (cls:=pk pc.c 2) (before:=w1.known.length) (e:=w1.blocks.length+2) (k:=w1.blocks.length+1) (lay:=decide (pk pc.flags 2=1)) (w:=x.2) (by omega)
 have wk9:=wk8.way x.1 (pk pc.c 2) w1.known.length (w1.blocks.length+2) (w1.blocks.length+1) (decide (pk pc.flags 2=1)) (by omega)
 have p9:=(j0t x.1 (pk pc.c 2) w1.known.length (w1.blocks.length+2) (w1.blocks.length+1) (decide (pk pc.flags 2=1)) x.2 (w1.blocks.length+2)).trans p8
 obtain ⟨y,ey⟩:∃ y,y=jhl x.1 (pk pc.c 2) w1.known.length (w1.blocks.length+2) (w1.blocks.length+1) (decide (pk pc.flags 2=1)) x.2:=⟨_,rfl⟩
 rw [←ey] at K9 l9 wk9 p9
 rw [jao]
 unfold jwe
 have ok9:=K9.ok
 obtain ⟨a9,b9,c9,hg9,kl9,bl9⟩:=K9.cells
 have K10:=K9.setcur (j:=w1.blocks.length+2) hg9
 obtain ⟨h10,e10⟩:∃ h10,hj9.put p (some (.arr [si y.2.m.1,si y.2.m.2,a9,b9,si (w1.blocks.length+2:Nat),c9,si y.2.all] tt.mas))=h10:=⟨_,rfl⟩
 rw [e10] at K10
 obtain ⟨blk,hblk,hpar⟩:=Option.map_eq_some_iff.1 p9
 have hblk':({ y.2 with cur:=w1.blocks.length+2 }:Ms).blocks[w1.blocks.length+2]?=some blk:=hblk
 have hnk9:=wk9.nk
 obtain ⟨a,b,c,bb,pp,z,h11,ns11,hg10,ix,rd1,e11,ok11,hp11,K11⟩:=K10.params hblk' (by rw [hpar];simp) (by rw [hpar];simp;omega)
 have hg11:=hp11.trans hg10
 have ok10:=K10.ok
 simp (disch:=first|omega|simp only[List.length]|apply_rules[jaa,jac,jad]) only [go_sem,hg9,e10,hg10,ix,rd1,e11,hg11]
 have hfin:jex w pc={ y.2 with cur:=w1.blocks.length+2,known:=y.2.known++blk.params }:=by
  have h1:jex w pc={ y.2 with cur:=w1.blocks.length+2,known:=y.2.known++(y.2.blocks.getD (w1.blocks.length+2) ⟨[],[],[]⟩).params }:=by
   subst ey ex e6 e4 e1
   rfl
  rw [h1,List.getD_eq_getElem?_getD,hblk,Option.getD_some]
 rw [hfin]
 exact ⟨_,K11.mr,K11.mv⟩
end Go.Proofs.Ytaljcpoopmedmaa.Ev
