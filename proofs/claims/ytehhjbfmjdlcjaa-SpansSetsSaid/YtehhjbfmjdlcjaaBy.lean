/- At the ends and beginnings of blocks spans and sets say the same: the law's answer. -/
import Derived.Test.YtehhjbfmjdlcjaaBuA
import Derived.Test.YtehhjbfmjdlcjaaBp
namespace Go.Proofs.Ytehhjbfmjdlcjaa.Ms
set_option linter.all false
theorem qu9 {n W:Nat} {bs:List Blk} {ins outs ins' outs':List (List Nat)} (jj:JJ n W bs ins outs) (fx:∀ q,q<bs.length->FxB bs ins' outs' q) :
 (∀ k u,jbn (ins.getD k []) u=true->jbn (ins'.getD k []) u=true)/\∀ k u,jbn (outs.getD k []) u=true->jbn (outs'.getD k []) u=true :=
 jj.lf (fun k u=>jbn (ins'.getD k []) u=true) (fun k u=>jbn (outs'.getD k []) u=true)
  ⟨fun k b e u hb he h=>((fx k (f0h.1 hb).1 b hb).1 u).2 ⟨e,he,h⟩,fun k b u hb h h2=>((fx k (f0h.1 hb).1 b hb).2 u).2 ⟨h,h2⟩⟩
end Go.Proofs.Ytehhjbfmjdlcjaa.Ms
namespace Go.Proofs.Ytehhjbfmjdlcjaa.Ev
open Go Go.RowKit Go.Proofs.Ytehhjbfmjdlcjaa.Ms
attribute [local go_sem] Int.reduceToNat reduceCtorEq Nat.reduceAdd Nat.reduceMul Nat.reduceEqDiff Int.reduceEq Int.reduceLT Int.reduceLE Int.reduceNeg Int.reduceAdd Int.reduceSub Int.reduceMul Int.reduceNe
attribute [local go_sem ↓] reduceIte
set_option linter.all false
set_option maxRecDepth 100000
set_option maxHeartbeats 4000000
variable {x0 x1 x2 x3 x16 x19 x20 x22:AV} {a:Int} {s:List Bool} {N st sx st2:Nat} {xl:SV}
section
variable {h:Hp} {m:Nat×Nat} {Q:AV->Hp->Prop}
theorem j1k {b:Int} (ha:In6 a) (hb:In6 b):WC FV 9 [vi a,vi b] h Q=Q (.agg (qr6 (jus a b))) h:=jap ((qvs rfl rfl rfl rfl rfl rfl).trans ((qfv rfl rfl rfl rfl rfl rfl rfl rfl rfl).trans (j5s ha hb)))
theorem qf4 {l:List Pc} (m1:2<=m.1/\m.1<=10) (m2:2<=m.2/\m.2<=10) (pin:∀ q∈l,Pin q) (lx:LstE jb5 7 xl l):WC FV 10 [.agg [si m.1,si m.2],.s xl] h Q=Q (.agg (j2k (jfk m l))) h:=jap ((qvs rfl rfl rfl rfl rfl rfl).trans ((qfv rfl rfl rfl rfl rfl rfl rfl rfl rfl).trans (qk1 m1 m2 pin lx)))
theorem j57 {f:Fc} (h1:f.blocks.length<=10000) (h2:∀ b∈f.blocks,b.instrs.length<=10000):WC FV 16 [.agg [jae jal f.values,jae jax f.blocks]] h Q=Q (.s (jae jal (jan f.blocks))) h:=jap ((qvs rfl rfl rfl rfl rfl rfl).trans ((qfv rfl rfl rfl rfl rfl rfl rfl rfl rfl).trans (jxv h1 h2)))
theorem qva {f:Fc} (o:FlOk m f s) (m1:2<=m.1/\m.1<=10) (m2:2<=m.2/\m.2<=10) :
 ∃ ins outs,JJ f.values.length ((f.values.length+63) / 64) f.blocks ins outs/\(∀ q,q<f.blocks.length->FxB f.blocks ins outs q)/\∀ h Q,WC FV 15 [.agg [jae jal f.values,jae jax f.blocks],.agg [si m.1,si m.2]] h Q=Q (qcy f.blocks ins outs f.values.length) h:=by
 obtain⟨n,v,h',h1,ins,outs,jj,fx,d,e⟩:=qcz qy6 jda o m1 m2
 exact⟨ins,outs,jj,fx,fun h Q=>jap ((ja0 rfl).trans (jba rfl (by simp only[jaq,jav,ja5,jbr,jaw,ja6,ja4,jbi,ja7,jbc,if_true]) ⟨n,v,h',h1,d,e⟩))⟩
theorem qy9 {f:Fc} (o:FlOk m f s) (m1:2<=m.1/\m.1<=10) (m2:2<=m.2/\m.2<=10) :
 ∃ ins outs,JJ f.values.length ((f.values.length+63) / 64) f.blocks ins outs/\(∀ q,q<f.blocks.length->FxB f.blocks ins outs q)/\∀ h Q,WC FV 13 [.agg [jae jal f.values,jae jax f.blocks],.agg [si m.1,si m.2]] h Q=Q (qqd f.values.length ins outs) h:=by
 obtain⟨n,v,h',h1,ins,outs,jj,fx,d,e⟩:=qf1 jda o m1 m2
 exact⟨ins,outs,jj,fx,fun h Q=>jap ((ja0 rfl).trans ((ja0 rfl).trans (jba rfl (by simp only[jaq,jav,ja5,jbr,jaw,ja6,ja4,jbi,ja7,jbc,if_true]) ⟨n,v,h',h1,d,e⟩)))⟩
theorem qf5 {l:List (Nat×Nat)} {n:Nat} (hl:l.length<=10000):WC FV 17 [.s (jae jmd l),vi n] h Q=Q (vb (jes l n)) h :=
 jap (jba rfl (by simp only[jaq,jav,ja5,jbr,jaw,ja6,ja4,jbi,ja7,jbc,if_true]) (qqh jda hl ((ja0 rfl).trans ((ja0 rfl).trans ((jdd rfl).trans ((jdd rfl).trans ((ja0 rfl).trans (jm2 rfl)))))) rfl))
theorem jv4 {l:List Nat} {n:Nat} (hl:l.length<=10000):WC FV 14 [.s (jae jal l),vi n] h Q=Q (vb (jv9 l n)) h :=
 jap ((ja0 rfl).trans ((ja0 rfl).trans ((ja0 rfl).trans ((jdd rfl).trans ((jdd rfl).trans (jba rfl (by simp only[jaq,jav,ja5,jbr,jaw,ja6,ja4,jbi,ja7,jbc,if_true]) (qu2 jda hl (jm2 rfl) rfl)))))))
end
def qza (f:Fc) (ins outs ins' outs':List (List Nat)) (b:Ms.Blk) (k st st2 v:Nat):Prop :=
 jes (jg2 f.blocks ins outs v f.blocks.length) st=(jv9 (jbo (ins'.getD k []) f.values.length) v||jv9 b.params v)/\jes (jg2 f.blocks ins outs v f.blocks.length) (st2 - 1)=jv9 (jbo (outs'.getD k []) f.values.length) v
theorem qzb {f:Fc} {ins outs ins' outs':List (List Nat)} {W:Nat} (k:SpFc f.blocks f.values.length ins outs s) (jj:JJ f.values.length W f.blocks ins outs) (jj':JJ f.values.length W f.blocks ins' outs') (fx':∀ q,q<f.blocks.length->FxB f.blocks ins' outs' q) {q:Nat} {b:Ms.Blk} (hb:f.blocks[q]?=some b) {v:Nat} (hst:(jan f.blocks)[q]?=some st) (hst2:(jan f.blocks)[q+1]?=some st2) (hv:v<f.values.length):1<=st2/\qza f ins outs ins' outs' b q st st2 v:=by
 have e1:(jan f.blocks).getD q 0=st:=by rw[f0c,hst];rfl
 have e2:(jan f.blocks).getD (q+1) 0=st2:=by rw[f0c,hst2];rfl
 obtain⟨n,h1,h2⟩:=jdl hb
 rw[hst] at h1;cases h1
 rw[hst2] at h2
 have h3:=Option.some.inj h2
 have fa:=k.at (v:=v) hb
 have nd:=fun {p:Nat}=>k.need (v:=v) (p:=p) hb
 rw[e1,e2] at nd
 rw[e1] at fa
 obtain⟨l1,l2⟩:=qu9 jj fx'
 obtain⟨l3,l4⟩:=qu9 jj' k.fx
 have ei:jbn (ins'.getD q []) v=jbn (ins.getD q []) v:=f1x.2 ⟨l3 q v,l1 q v⟩
 have eo:jbn (outs'.getD q []) v=jbn (outs.getD q []) v:=f1x.2 ⟨l4 q v,l2 q v⟩
 refine⟨by omega,?_,?_⟩
 .rw [j4i hv,ei,f1x,nd (by omega) (by omega),f1z,qf2]
  constructor
  .rintro ⟨a1,a2,a3⟩
   have:=(fa.bd a1).1
   exact(fa.fr a1).1 (by omega)
  .intro h
   have ht:=fa.t1.2 (h.imp id (fun h=>jky.2 (.inl h)))
   have h5:=(fa.fr ht).2 h
   have h6:=fa.bd ht
   exact⟨ht,by omega,by omega⟩
 .rw [j4i hv,eo,f1x,nd (by omega) (by omega)]
  constructor
  .rintro ⟨a1,a2,a3⟩
   have:=(fa.bd a1).2.2
   exact(fa.to a1).1 (by omega)
  .intro h
   have ht:=fa.ot h
   have h5:=(fa.to ht).2 h
   have h6:=fa.bd ht
   exact⟨ht,by omega,by omega⟩
theorem qqj {f:Fc} {bx k:Nat} {ins outs ins' outs':List (List Nat)} (lv:LvOk f N) {b:Ms.Blk} (hb:f.blocks[k]?=some b) (hli:ins'.length=f.blocks.length) (hlo:outs'.length=f.blocks.length) (hst:(jan f.blocks)[k]?=some st) (hst2:(jan f.blocks)[k+1]?=some st2) (hs1:1<=st2/\st2<=100000) (hlaw:∀ v,v<f.values.length->qza f ins outs ins' outs' b k st st2 v) {hi:Hp} (ok:Ok hi) (xb:hi.get bx=some (.arr (jax b) 42)) (xs:hi.get sx=some (.arr [jae jkw (jm3 f.values.length ins'),jae jkw (jm3 f.values.length outs')] 52)) {x12 x13 x14 x15 x21:AV} {Q:Ex->St->Prop} :
 ∀ (d i:Nat) (_:i+d=f.values.length) {x4 x8 x9:AV}
  (hQ:∀ x4 x8 x9,Q (.exit 2) (.mk [x0,x1,x2,x3,x4,.s (.ptr bx 0),.s (.ptr sx 0),vi k,x8,x9,vi f.values.length,vi f.values.length,x12,x13,x14,x15,x16,.s (jae jal (jan f.blocks)),.s (jae jqs (jf0 f.blocks ins outs f.values.length)),x19,x20,x21,x22] hi)),
  W FV jv2.loop (.mk [x0,x1,x2,x3,x4,.s (.ptr bx 0),.s (.ptr sx 0),vi k,x8,x9,vi f.values.length,vi i,x12,x13,x14,x15,x16,.s (jae jal (jan f.blocks)),.s (jae jqs (jf0 f.blocks ins outs f.values.length)),x19,x20,x21,x22] hi) Q
 | 0,i,hd,x4,x8,x9,hQ=>by
  obtain rfl:i=f.values.length:=by omega
  rw[jai]
  unfold jv2
  simp(disch:=first|omega|rfl) only[go_sem,f0o]
  exact hQ ..
 | d+1,i,hd,x4,x8,x9,hQ=>by
  have hil:i<f.values.length:=by omega
  have hlt:(i:Int)<(f.values.length:Int):=by omega
  have hs:(i:Int)+1=((i+1:Nat):Int):=by omega
  have hkl:=(f0h.1 hb).1
  have hnb:=lv.nb
  have hnv:=lv.nv
  obtain⟨p1,p2,p3,p4,p5,p6⟩:=lv.blk b (f0b hb)
  obtain⟨q1,q2⟩:=hlaw i hil
  have hst':=jag (enc:=jal) (size:=1) hst rfl
  have hst2':=jag (enc:=jal) (size:=1) hst2 rfl
  have hir:=jag (enc:=jqs) (size:=1) (qc5 (bs:=f.blocks) (ins:=ins) (outs:=outs) hil) rfl
  have hrl:=jv1 (bs:=f.blocks) (ins:=ins) (outs:=outs) (v:=i) f.blocks.length
  have hN:=fun {n:Nat} {h:Hp} {Q:AV->Hp->Prop}=>qf5 (l:=jg2 f.blocks ins outs i f.blocks.length) (n:=n) (h:=h) (Q:=Q) (by omega)
  have gi:(jm3 f.values.length ins')[k]?=some (jbo (ins'.getD k []) f.values.length):=by
   unfold jm3
   rw[f0p,f0c,f0a (show k<ins'.length by omega)];rfl
  have go:(jm3 f.values.length outs')[k]?=some (jbo (outs'.getD k []) f.values.length):=by
   unfold jm3
   rw[f0p,f0c,f0a (show k<outs'.length by omega)];rfl
  have hxi:=jag (enc:=jkw) (size:=1) gi rfl
  have hxo:=jag (enc:=jkw) (size:=1) go rfl
  have hlen:∀ ws,(jbo ws f.values.length).length<=10000:=fun ws=>by
   have:=f3s (jbn ws) (List.range f.values.length)
   rw[List.length_range] at this
   unfold jbo
   omega
  have w1:(k:Int)+1=((k+1:Nat):Int):=by omega
  have w2:(st2:Int) - 1=((st2 - 1:Nat):Int):=by omega
  obtain⟨A,eA⟩:∃ A,jv9 (jbo (ins'.getD k []) f.values.length) i=A:=⟨_,rfl⟩
  obtain⟨U,eU⟩:∃ U,jv9 (jbo (outs'.getD k []) f.values.length) i=U:=⟨_,rfl⟩
  obtain⟨M,eM⟩:∃ M,jv9 b.params i=M:=⟨_,rfl⟩
  rw[eA,eM] at q1
  rw[eU] at q2
  unfold jax at xb
  rw[jai]
  unfold jv2 qc1
  simp(disch:=first|omega|rfl) only[go_sem,jab,eq_true hlt]
  unfold qc0
  have z1:(hi.next<=sx/\sx<hi.next)=False:=eq_false (by omega)
  have z2:(hi.next<=bx/\bx<hi.next)=False:=eq_false (by omega)
  cases A with
  | true =>
   rw[Bool.true_or] at q1
   simp(disch:=first|omega|rfl) only[go_sem,jab,hir,jqs,hst',hst2',jal,hN,q1,q2,xb,xs,hxi,hxo,jkw,jv4 (hlen _),eA,eU,jv4 (show b.params.length<=10000 by omega),eM,w1,w2,qcl,j4h,z1,z2,hs]
   exact qqj lv hb hli hlo hst hst2 hs1 hlaw ok xb xs d (i+1) (by omega) hQ
  | false =>
   rw[f2v] at q1
   simp(disch:=first|omega|rfl) only[go_sem,jab,hir,jqs,hst',hst2',jal,hN,q1,q2,xb,xs,hxi,hxo,jkw,jv4 (hlen _),eA,eU,jv4 (show b.params.length<=10000 by omega),eM,w1,w2,qcl,j4h,z1,z2,hs]
   exact qqj lv hb hli hlo hst hst2 hs1 hlaw ok xb xs d (i+1) (by omega) hQ
theorem qvb {f:Fc} {fx:Nat} {ins outs ins' outs':List (List Nat)} (lv:LvOk f N) (hli:ins'.length=f.blocks.length) (hlo:outs'.length=f.blocks.length) (hlaw:∀ (k:Nat) (b:Ms.Blk) (st st2 v:Nat),f.blocks[k]?=some b->(jan f.blocks)[k]?=some st->(jan f.blocks)[k+1]?=some st2->v<f.values.length->1<=st2/\qza f ins outs ins' outs' b k st st2 v) (hv0:1<=f.values.length) {Q:Ex->St->Prop} :
 ∀ (d i:Nat) (_:i+d=f.blocks.length) {hi:Hp} (_:Ok hi) (_:fx<hi.next/\hi.get fx=some (.arr [jae jal f.values,jae jax f.blocks] 30)) (_:sx<hi.next/\hi.get sx=some (.arr [jae jkw (jm3 f.values.length ins'),jae jkw (jm3 f.values.length outs')] 52)) {x4 x5 x7 x8 x9 x10 x11 x13:AV}
  (hQ:∀ hj x4 x5 x7 x8 x9 x10 x11 x13,Q (.exit 0) (.mk [x0,x1,x2,x3,x4,x5,.s (.ptr sx 0),x7,x8,x9,x10,x11,.s (jae jax f.blocks),x13,vi f.blocks.length,vi f.blocks.length,x16,.s (jae jal (jan f.blocks)),.s (jae jqs (jf0 f.blocks ins outs f.values.length)),x19,x20,.s (.ptr fx 0),x22] hj)),
  W FV jv3.loop (.mk [x0,x1,x2,x3,x4,x5,.s (.ptr sx 0),x7,x8,x9,x10,x11,.s (jae jax f.blocks),x13,vi f.blocks.length,vi i,x16,.s (jae jal (jan f.blocks)),.s (jae jqs (jf0 f.blocks ins outs f.values.length)),x19,x20,.s (.ptr fx 0),x22] hi) Q
 | 0,i,hd,hi,ok,hff,hsx,x4,x5,x7,x8,x9,x10,x11,x13,hQ=>by
  obtain rfl:i=f.blocks.length:=by omega
  rw[jai]
  unfold jv3
  simp(disch:=first|omega|rfl) only[go_sem,f0o]
  exact hQ ..
 | d+1,i,hd,hi,ok,⟨hf1,hf2⟩,⟨hs1,hs2⟩,x4,x5,x7,x8,x9,x10,x11,x13,hQ=>by
  have hlt:(i:Int)<(f.blocks.length:Int):=by omega
  have hs:(i:Int)+1=((i+1:Nat):Int):=by omega
  obtain⟨b,hb⟩:∃ u,f.blocks[i]?=some u:=⟨_,f0a (by omega)⟩
  have hnb:=lv.nb
  have hnv:=lv.nv
  have hix:=jag (enc:=jax) (size:=3) hb rfl
  have lvv:=jaf (enc:=jal) (l:=f.values)
  obtain⟨st,hst1,hst2,hst3⟩:=jys lv (b:=i) (by omega)
  obtain⟨n,hn1,hn2⟩:=jdl hb
  rw[hst1] at hn1;cases hn1
  have p2:=(lv.blk b (f0b hb)).2.1
  obtain⟨hA,eA,okA,nA,xA,gA⟩:=jbt ok [.nilSlice,.nilSlice,.nilSlice] (jax b) 42
  have hf3:=(gA _ hf1).trans hf2
  have hs3:=(gA _ hs1).trans hs2
  have xA':=xA
  unfold jax at xA eA
  rw[jai]
  unfold jv3 qc2
  simp(disch:=first|omega|rfl) only[go_sem,jab,eq_true hlt,hix,jax,eA,xA,hf3,lvv]
  refine qqj lv hb hli hlo hst1 hn2 (by omega) (fun v hv=>(hlaw i b _ _ v hb hst1 hn2 hv).2) okA xA' hs3 f.values.length 0 (by omega) (fun x4 x8 x9=>?_)
  simp(disch:=first|omega|rfl) only[go_sem,jab,hs]
  exact qvb lv hli hlo hlaw hv0 d (i+1) (by omega) okA ⟨by omega,hf3⟩ ⟨by omega,hs3⟩ hQ
theorem qvc {h:Hp} (ok:Ok h) {b:Int} {l:List Pc} (ha:In6 a) (hb:In6 b) (pin:∀ q∈l,Pin q) (lx:LstE jb5 7 xl l):WC FV 8 [vi a,vi b,.s xl] h (fun v _=>v=.s (.bool true)):=by
 refine ja3 ((qvs rfl rfl rfl rfl rfl rfl).trans (jm2 rfl)) qy8 rfl ?_
 unfold qiu
 obtain⟨m1,m2⟩:=qk0 a b
 obtain⟨m,em⟩:∃ m,jus a b=m:=⟨_,rfl⟩
 rw[em] at m1 m2
 obtain⟨s,o,hp,hu⟩:=qp6 m1 m2 l
 obtain⟨f,ef⟩:∃ f,jfk m l=f:=⟨_,rfl⟩
 rw[ef] at o hp hu
 have hpos:=ok.pos
 have lv:=qqc o.k o.hv
 have hnb:=lv.nb
 have hnv:=lv.nv
 have hv0:=f1g.2 o.hv
 obtain⟨ins,outs,jj,hfx,hS⟩:=qva o m1 m2
 obtain⟨ins',outs',jj',hfx',hT⟩:=qy9 o m1 m2
 have k:=qqi o hp hu hfx
 obtain⟨hA,eA,okA,nA,xA,gA⟩:=jbt ok [.int .i64 0,.int .i64 0] [si m.1,si m.2] 25
 obtain⟨hB,eB,okB,nB,xB,gB⟩:=jbt okA [.nilSlice,.nilSlice] [jae jal f.values,jae jax f.blocks] 30
 obtain⟨hC,eC,okC,nC,xC,gC⟩:=jbt okB [.nilSlice,.nilSlice] [jae jkw (jm3 f.values.length ins'),jae jkw (jm3 f.values.length outs')] 52
 have yA:=(gB _ (by omega)).trans xA
 have zB:=(gC _ (by omega)).trans xB
 have nb2:hB.next=h.next+2:=by omega
 rw[nA] at eB xB zB
 rw[nb2] at eC xC
 have lb:=jaf (enc:=jax) (l:=f.blocks)
 have lv1:=jaf (enc:=jal) (l:=f.values)
 have ls:=jaf (enc:=jqs) (l:=jf0 f.blocks ins outs f.values.length)
 have lt:=jaf (enc:=jal) (l:=jan f.blocks)
 have els:(jf0 f.blocks ins outs f.values.length).length=f.values.length:=by unfold jf0;simp
 rw[els] at ls
 rw[jex] at lt
 have hst:=fun {h:Hp} {Q:AV->Hp->Prop}=>j57 (h:=h) (f:=f) (Q:=Q) (by omega) (fun b hb=>by have:=(lv.blk b hb).2.1;omega)
 have hs:(f.blocks.length:Int)+1=((f.blocks.length+1:Nat):Int):=by omega
 have c0:∀ n:Nat,((n:Int)≠(n:Int))=False:=fun n=>eq_false (fun h=>h rfl)
 simp(disch:=first|omega|rfl) only[go_sem,jab,j1k ha hb,em,qr6,eA,nA,xA,qf4 m1 m2 pin lx,ef,j2k,eB,yA,xB,hS,qcy,hT,qqd,nb2,eC,zB,xC,hst,lb,lv1,ls,lt,hs,c0]
 unfold qc3
 simp(disch:=first|omega|rfl) only[go_sem,zB,lb]
 refine qvb lv jj'.li jj'.lo (fun q b st st2 v h1 h2 h3 h4=>qzb k jj jj' hfx' h1 h2 h3 h4) hv0 f.blocks.length 0 (by omega) okC ⟨by omega,zB⟩ ⟨by omega,xC⟩ (fun hj x4 x5 x7 x8 x9 x10 x11 x13=>?_)
 simp(disch:=first|omega|rfl) only[go_sem]
end Go.Proofs.Ytehhjbfmjdlcjaa.Ev
