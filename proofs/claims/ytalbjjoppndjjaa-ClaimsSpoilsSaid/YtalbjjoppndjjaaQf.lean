/- claim.Claims: what the code tells. -/
import Derived.Test.YtalbjjoppndjjaaQd
import Derived.Test.YtalbjjoppndjjaaSoD
namespace Go.Proofs.Ytalbjjoppndjjaa.Ev
open Go Go.RowKit Go.Proofs.Ytalbjjoppndjjaa.Ms
attribute [local go_sem] Int.reduceToNat reduceCtorEq Nat.reduceAdd Nat.reduceMul Nat.reduceEqDiff Int.reduceEq Int.reduceLT Int.reduceLE Int.reduceNeg Int.reduceAdd Int.reduceSub Int.reduceMul Int.reduceNe
attribute [local go_sem ↓] reduceIte
set_option linter.all false
set_option maxRecDepth 100000
set_option maxHeartbeats 4000000
variable {x0 x1 x2 x3 x18 x19 x20:AV} {vs:List AV} {bF:Nat}
def qpt:FuncId:=26
def qta:FuncId:=27
noncomputable def FC2:Fns:=SX qpt qta FC1
theorem qtb {A:Nat->Int}:Env Try.prog A tys FC2:=qps qs7
theorem j4h {f:FuncId} {h:Hp} (hf:Nat.beq f qpt=false):jcp FC2 f vs h=jcp FC1 f vs h:=qpr hf
theorem qli {h:Hp}:jcp FC2 qpt [.s .nilSlice,.s (.func qta [])] h=some (.tup [],h):=qe0 ⟨rfl,.inl ⟨rfl,rfl⟩⟩
section
variable {h:Hp} {m:Nat×Nat} {f:Fc} {s:List Bool} {Q:AV->Hp->Prop}
theorem qcp {x:Ms.Ins} {e:Nat} (fc:FnC f) (k:InC f x) (he:e<=100000):WC FC2 25 [.agg [jae jat f.values,jae ja0 f.blocks],.agg [si x.op,jae ja5 x.ops,jae jcr x.spoils],vi e] h Q=Q (.s (jae C5.s (j4g f.values x e))) h :=
 jas ((j4h rfl).trans (jbh rfl (by simp only[jay,ja2,jbc,jcl,ja3,jbd,ja9,jbn,jbe,jbi,if_true]) (qle jdx fc k he (fun vs h=>qlz rfl rfl rfl rfl rfl rfl rfl rfl rfl rfl rfl rfl) rfl)))
theorem qcq (o:FlOk m f s) (m1:2<=m.1/\m.1<=10) (m2:2<=m.2/\m.2<=10):WC FC2 11 [.agg [jae jat f.values,jae ja0 f.blocks],.agg [si m.1,si m.2]] h Q=Q (vi 0) h :=
 jas ((j4h rfl).trans ((jbf rfl).trans ((jbf rfl).trans (qk9 o m1 m2))))
theorem jz1 (h1:f.blocks.length<=10000) (h2:∀ b∈f.blocks,b.instrs.length<=10000):WC FC2 9 [.agg [jae jat f.values,jae ja0 f.blocks]] h Q=Q (.s (jae jat (jau f.blocks))) h :=
 jas ((j4h rfl).trans ((jbf rfl).trans ((qcn rfl rfl rfl rfl rfl rfl rfl rfl rfl).trans (jwx h1 h2))))
end
def ju3 (vs:List Nat):Nat->List Ms.Ins->List C5
 | _,[]=>[]
 | e,x::r=>j4g vs x e++ju3 vs (e+2) r
def jxv (vs:List Nat):Nat->List Ms.Blk->List C5
 | _,[]=>[]
 | s,b::r=>ju3 vs (s+1) b.instrs++jxv vs (s+2+2*b.instrs.length) r
theorem j2s {f:Fc}:∀ {l:List Ms.Ins} (e:Nat),(∀ x∈l,InC f x)->(ju3 f.values e l).length<=26*l.length
 | [],_,_=>by simp[ju3]
 | x::r,e,k=>by
  have h1:=ju2 (k x (by simp)) e
  have h2:=j2s (e+2) (fun y hy=>k y (f0s _ hy))
  rw[ju3,f0w,f0z];omega
structure BlC (f:Fc):Prop where
 nb:f.blocks.length<=16
 fc:FnC f
 ni:∀ b∈f.blocks,b.instrs.length<=40
 ins:∀ b∈f.blocks,∀ x∈b.instrs,InC f x
theorem j2t {f:Fc}:∀ {l:List Ms.Blk} (s:Nat),(∀ b∈l,b.instrs.length<=40/\∀ x∈b.instrs,InC f x)->(jxv f.values s l).length<=1040*l.length
 | [],_,_=>by simp[jxv]
 | b::r,s,k=>by
  have h1:=j2s (s+1) (k b (by simp)).2
  have h0:=(k b (by simp)).1
  have h2:=j2t (s+2+2*b.instrs.length) (fun y hy=>k y (f0s _ hy))
  rw[jxv,f0w,f0z];omega
def jb8 (f:Fc):List C5:=jxv f.values 0 f.blocks
theorem ji5 {f:Fc} (k:BlC f):(jb8 f).length<=20000:=by
 have h1:=j2t (f:=f) (l:=f.blocks) 0 (fun b hb=>⟨k.ni b hb,k.ins b hb⟩)
 have h2:=k.nb
 have:(jb8 f).length=(jxv f.values 0 f.blocks).length:=rfl
 omega
theorem ju4 {l:List Ms.Blk} (h:∀ b∈l,b.instrs.length<=40):∀ {k n:Nat},(jau l)[k]?=some n->k<=l.length->n<=82*k
 | 0,n,e,_=>by rw[jiz] at e;cases e;omega
 | k+1,n,e,hk=>by
  obtain⟨b,hb⟩:∃ b,l[k]?=some b:=⟨_,f0a (by omega)⟩
  obtain⟨n0,h1,h2⟩:=jfa hb
  have:=ju4 h h1 (by omega)
  have:=h b (f0c hb)
  rw[h2] at e
  cases e
  omega
theorem qpu {f:Fc} (bc:BlC f) {ins:List Ms.Ins} {k st lo:Nat} (hst:(jau f.blocks)[k]?=some st) (hst2:st<=10000) (hl:ins.length<=40) (hin:∀ x∈ins,InC f x) (hlo:1<=lo) (lF:bF<lo) {fin:List C5} (hf:fin.length<=90000) {x13 x14 x15 x16 x17:AV} {Q:Ex->St->Prop} :
 ∀ (d i:Nat) (_:i+d=ins.length) {hi:Hp} {x:SV} {l:List C5} (_:Ok hi) (_:lo<=hi.next) (_:CR lo hi x l) (_:hi.get bF=some (.arr [jae jat f.values,jae ja0 f.blocks] 26)) (_:l++ju3 f.values (st+1+2*i) (ins.drop i)=fin) {x4 x7 x10:AV}
  (hQ:∀ hj x x4 x7 x10,Ok hj->hi.next<=hj.next->(∀ n,n<lo->hj.get n=hi.get n)->CR lo hj x fin->Q (.exit 2) (.mk [x0,x1,x2,x3,x4,vi k,.s (jae jat (jau f.blocks)),x7,.s x,.s (jae jdo ins),x10,vi ins.length,vi ins.length,x13,x14,x15,x16,x17,x18,x19,x20,.s (.ptr bF 0)] hj)),
  W FC2 jnh.loop (.mk [x0,x1,x2,x3,x4,vi k,.s (jae jat (jau f.blocks)),x7,.s x,.s (jae jdo ins),x10,vi ins.length,vi i,x13,x14,x15,x16,x17,x18,x19,x20,.s (.ptr bF 0)] hi) Q
 | 0,i,hd,hi,x,l,ok,hn,kr,xF,hfin,x4,x7,x10,hQ=>by
  obtain rfl:i=ins.length:=by omega
  rw[List.drop_length,ju3,f05] at hfin
  subst hfin
  rw[jaj]
  unfold jnh
  simp(disch:=first|omega|rfl) only[go_sem,f0u]
  exact hQ hi _ _ _ _ ok (f0f _) (fun _ _=>rfl) kr
 | d+1,i,hd,hi,x,l,ok,hn,kr,xF,hfin,x4,x7,x10,hQ=>by
  have hil:i<ins.length:=by omega
  have hlt:(i:Int)<(ins.length:Int):=by omega
  have hs:(i:Int)+1=((i+1:Nat):Int):=by omega
  obtain⟨ee,hee⟩:∃ ee,st+1+2*i=ee:=⟨_,rfl⟩
  have hs3:(st:Int)+1+2*(i:Int)=(ee:Int):=by omega
  obtain⟨y,hu⟩:∃ u,ins[i]?=some u:=⟨_,f0a hil⟩
  have hk:=hin y (f0c hu)
  have hix:=jag (enc:=jdo) (size:=3) hu rfl
  have hxs:=jag (enc:=jat) (size:=1) hst rfl
  have hdr:ins.drop i=y::ins.drop (i+1):=by
   rw[f1d hil];congr 1;exact(f0t.1 hu).2
  rw[hdr,ju3,←f0q,hee,show ee+2=st+1+2*(i+1) by omega] at hfin
  have hll:l.length<=90000:=by rw[←hfin] at hf;simp at hf;omega
  have hcl:=ju2 hk ee
  obtain⟨hA,eA,okA,nA,xA,gA⟩:=jbv ok [.int .i64 0,.nilSlice,.nilSlice] (jdo y) 57
  have yF:=(gA _ (by omega)).trans xF
  have kA:=kr.keep (h1:=hA) (by omega) (fun n _ h2=>gA n h2)
  obtain⟨x',hB,eB,okB,nB,gB,kB⟩:=kA.appL okA hlo (by omega) (j4g f.values y ee) (by omega)
  unfold jdo at xA eA
  rw[jaj]
  unfold jnh j2e j2d
  simp(disch:=first|omega|rfl) only[go_sem,jac,eq_true hlt,hix,jdo,eA,xA,yF,hxs,jat,hs3,qcp bc.fc hk (e:=ee) (by omega),eB,hs]
  exact qpu bc hst hst2 hl hin hlo lF hf d (i+1) (by omega) okB (by omega) kB ((gB _ lF).trans yF) hfin (fun hj x x4 x7 x10 q1 q2 q3 q4=>hQ hj x x4 x7 x10 q1 (by omega) (fun n hn'=>(q3 n hn').trans ((gB n hn').trans (gA n (by omega)))) q4)
theorem qpv {f:Fc} (bc:BlC f) {lo:Nat} (hlo:1<=lo) (lF:bF<lo) {fin:List C5} (hf:fin.length<=90000) {Q:Ex->St->Prop} :
 ∀ (d i:Nat) (_:i+d=f.blocks.length) {hi:Hp} {x:SV} {l:List C5} {st:Nat} (_:(jau f.blocks)[i]?=some st) (_:Ok hi) (_:lo<=hi.next) (_:CR lo hi x l) (_:hi.get bF=some (.arr [jae jat f.values,jae ja0 f.blocks] 26)) (_:l++jxv f.values st (f.blocks.drop i)=fin) {x4 x5 x7 x9 x10 x11 x12 x13 x15:AV}
  (hQ:∀ hj x x4 x5 x7 x9 x10 x11 x12 x13 x15,Ok hj->hi.next<=hj.next->(∀ n,n<lo->hj.get n=hi.get n)->CR lo hj x fin->Q (.exit 0) (.mk [x0,x1,x2,x3,x4,x5,.s (jae jat (jau f.blocks)),x7,.s x,x9,x10,x11,x12,x13,.s (jae ja0 f.blocks),x15,vi f.blocks.length,vi f.blocks.length,x18,x19,x20,.s (.ptr bF 0)] hj)),
  W FC2 jni.loop (.mk [x0,x1,x2,x3,x4,x5,.s (jae jat (jau f.blocks)),x7,.s x,x9,x10,x11,x12,x13,.s (jae ja0 f.blocks),x15,vi f.blocks.length,vi i,x18,x19,x20,.s (.ptr bF 0)] hi) Q
 | 0,i,hd,hi,x,l,st,hst,ok,hn,kr,xF,hfin,x4,x5,x7,x9,x10,x11,x12,x13,x15,hQ=>by
  obtain rfl:i=f.blocks.length:=by omega
  rw[List.drop_length,jxv,f05] at hfin
  subst hfin
  rw[jaj]
  unfold jni
  simp(disch:=first|omega|rfl) only[go_sem,f0u]
  exact hQ hi _ _ _ _ _ _ _ _ _ _ ok (f0f _) (fun _ _=>rfl) kr
 | d+1,i,hd,hi,x,l,st,hst,ok,hn,kr,xF,hfin,x4,x5,x7,x9,x10,x11,x12,x13,x15,hQ=>by
  have hil:i<f.blocks.length:=by omega
  have hlt:(i:Int)<(f.blocks.length:Int):=by omega
  have hs:(i:Int)+1=((i+1:Nat):Int):=by omega
  have nb:=bc.nb
  obtain⟨b,hu⟩:∃ u,f.blocks[i]?=some u:=⟨_,f0a hil⟩
  have hbm:=f0c hu
  have hix:=jag (enc:=ja0) (size:=3) hu rfl
  have hdr:f.blocks.drop i=b::f.blocks.drop (i+1):=by
   rw[f1d hil];congr 1;exact(f0t.1 hu).2
  rw[hdr,jxv,←f0q] at hfin
  obtain⟨n0,h1,h2⟩:=jfa hu
  rw[hst] at h1
  cases h1
  have hst2:=ju4 bc.ni hst (by omega)
  have hni:=bc.ni b hbm
  obtain⟨hA,eA,okA,nA,xA,gA⟩:=jbv ok [.nilSlice,.nilSlice,.nilSlice] (ja0 b) 36
  have yF:=(gA _ (by omega)).trans xF
  have kA:=kr.keep (h1:=hA) (by omega) (fun n _ h2=>gA n h2)
  have l2:=jah (enc:=jdo) (l:=b.instrs)
  have hf1:(l++ju3 f.values (st+1) b.instrs).length<=90000:=by rw[←hfin] at hf;simp at hf ⊢;omega
  unfold ja0 at xA eA
  rw[jaj]
  unfold jni j2f
  simp(disch:=first|omega|rfl) only[go_sem,jac,eq_true hlt,hix,ja0,eA,xA,l2]
  refine qpu bc (ins:=b.instrs) (lo:=lo) (fin:=l++ju3 f.values (st+1) b.instrs) hst (by omega) hni (bc.ins b hbm) hlo lF hf1 b.instrs.length 0 (by omega) okA (by omega) kA yF rfl (fun hj x' x4 x7 x10 q1 q2 q3 q4=>?_)
  simp(disch:=first|omega|rfl) only[go_sem,jac,hs]
  exact qpv bc hlo lF hf d (i+1) (by omega) h2 q1 (by omega) q4 ((q3 _ lF).trans yF) hfin (fun hj x x4 x5 x7 x9 x10 x11 x12 x13 x15 r1 r2 r3 r4=>hQ hj x x4 x5 x7 x9 x10 x11 x12 x13 x15 r1 (by omega) (fun n hn'=>(r3 n hn').trans ((q3 n hn').trans (gA n (by omega)))) r4)
theorem qcr {lo:Nat} {h:Hp} {x:SV} {l:List C5} (k:CR lo h x l) (ok:Ok h) (hl:l.length<=100000) (h1:1<=lo) :
 ∃ h',jcp FC2 qpt [.s x,.s (.func qta [])] h=some (.tup [],h')/\Ok h'/\h'.next=h.next/\CR lo h' x (srt l)/\(∀ n,n<lo->h'.get n=h.get n):=by
 rcases k with⟨rfl,rfl⟩ | ⟨h2,b,rfl,h3,h4,h5⟩
 .exact ⟨h,qli,ok,rfl,.inl ⟨f1h (ji3 []),rfl⟩,fun _ _=>rfl⟩
 .have hlen:1<=l.length:=by cases l with
   | nil=>exact absurd rfl h2
   | cons a l=>simp
  have hls:=ji3 l
  have hfl:((srt l).flatMap C5.s).length=(l.flatMap C5.s).length:=by rw[jc9,jc9,hls]
  have hrd:rd h b 0 (l.length*5)=some (l.flatMap C5.s):=by
   show ob (h.get b) _=_
   rw[h5]
   show jby (l.length*5) (l.flatMap C5.s)=_
   exact(ja4 _).2 ⟨by rw[jc9];omega,by rw[f2z (by rw[jc9];omega)]⟩
  have hwr:wr h b 0 ((srt l).flatMap C5.s)=some (h.put b (some (.arr ((srt l).flatMap C5.s) 52))):=by
   show oif (Nat.ble h.lo b) (ob (h.get b) _) none=_
   rw[ok.lo,jgo (f10 b),h5]
   show ob (jbq 0 ((srt l).flatMap C5.s) (l.flatMap C5.s)) _=_
   rw[(jd4 _).2 ⟨by rw[hfl];omega,rfl⟩]
   rw[List.take_zero,f1j,f0y,f11 (by rw[hfl];omega),f05]
   rfl
  refine⟨_,qe0 ⟨rfl,.inr ⟨b,0,l.length,false,l,rfl,hlen,by omega,hrd,hwr⟩⟩,jao ok,by simp,.inr ⟨by intro e;rw[e] at hls;simp at hls;omega,b,by rw[hls],h3,by simpa using h4,by rw[jai ok (by omega),if_pos rfl]⟩,fun n hn=>by rw[jai ok (by omega),if_neg (by omega)]⟩
def ql0 (f:Fc):AV:=.tup [(false,[jae C5.s (srt (jb8 f))]),(false,[si 0])]
theorem jrw {l:List C5} (hd:l.Nodup):(srt l).Pairwise (fun x y=>x.lt y):=by
 have h1:=j4e l
 have h2:(srt l).Nodup:=(jks l).nodup_iff.2 hd
 have:=h1.and h2
 exact this.imp (fun {a b} h=>h.1.resolve_right h.2)
theorem j94 {kk:Bool} {h:Hp} (ok:Ok h) {m:Nat×Nat} {f:Fc} {s:List Bool} (o:FlOk m f s) (m1:2<=m.1/\m.1<=10) (m2:2<=m.2/\m.2<=10) (bc:BlC f) (hd:(jb8 f).Nodup) :
 WC FC2 12 [.agg [jae jat f.values,jae ja0 f.blocks],.agg [si m.1,si m.2]] h (fun v h'=>∃ d,jgm kk h' d v=some (ql0 f)):=by
 refine jba ((j4h rfl).trans ((jbf rfl).trans (qlz rfl rfl rfl rfl rfl rfl rfl rfl rfl rfl rfl rfl))) qpf rfl ?_
 unfold j9w
 have hpos:=ok.pos
 have nb:=bc.nb
 have hcl:=ji5 bc
 have l3:=jah (enc:=ja0) (l:=f.blocks)
 obtain⟨hA,eA,okA,nA,xA,gA⟩:=jei ok [jae jat f.values,jae ja0 f.blocks] 26
 obtain⟨hB,eB,okB,nB,xB,gB⟩:=jei okA [si m.1,si m.2] 30
 have yA:=(gB _ (by omega)).trans xA
 rw[nA] at xB
 have hni:=bc.ni
 simp(disch:=first|omega|rfl) only[go_sem,eA,eB,nA,yA,xB,qcq o m1 m2]
 unfold j2g
 simp(disch:=first|omega|rfl) only[go_sem,yA,jz1 (f:=f) (by omega) (fun b hb=>by have:=hni b hb;omega),l3]
 refine qpv bc (lo:=h.next+2) (fin:=jb8 f) (l:=[]) (st:=0) (by omega) (by omega) (by omega) f.blocks.length 0 (by omega) (jiz _) okB (by omega) .nil yA rfl (fun hj x x4 x5 x7 x9 x10 x11 x12 x13 x15 q1 q2 q3 q4=>?_)
 obtain⟨hs,es,oks,ns,ks,gs⟩:=qcr q4 q1 (by omega) (by omega)
 simp(disch:=first|omega|rfl) only[go_sem]
 refine j6c es ?_
 simp(disch:=first|omega|rfl) only[go_sem]
 refine qlf oks (by rw[ji3];omega) (jrw hd) ks (fun vs h=>(j4h rfl).trans ((jbf rfl).trans (qlz rfl rfl rfl rfl rfl rfl rfl rfl rfl rfl rfl rfl))) rfl ?_
 simp(disch:=first|omega|rfl) only[go_sem]
 exact⟨2,by
  show ob (qav (jfp kk hs 2) [(false,[x]),(false,[.int .i64 0])]) (fun x=>some (AV.tup x))=_
  show ob (ob (jgl (jfp kk hs 2) [x]) (fun x=>ob (qav (jfp kk hs 2) [(false,[.int .i64 0])]) (fun r=>some ((false,x)::r)))) (fun y=>some (AV.tup y))=_
  rw[jm5 ks.frz]
  rfl⟩
def SC3 (f:FuncId):Bool:=Nat.beq f 12
noncomputable def FC3:Fns:=PX SC3 FC2
theorem qpw {A:Nat->Int}:Env Try.prog A tys FC3:=jgb qtb
section
variable {h:Hp} {m:Nat×Nat} {f:Fc} {s:List Bool} {Q:AV->Hp->Prop}
theorem j2u (o:FlOk m f s) (m1:2<=m.1/\m.1<=10) (m2:2<=m.2/\m.2<=10) (bc:BlC f) (hd:(jb8 f).Nodup):WC FC3 12 [.agg [jae jat f.values,jae ja0 f.blocks],.agg [si m.1,si m.2]] h Q=Q (ql0 f) h :=
 jas (jbh rfl (by simp only[jay,ja2,jbc,jcl,ja3,jbd,ja9,jbn,jbe,jbi,if_true]) (j94 jdx o m1 m2 bc hd))
theorem j4i {g:FuncId} (h1:Nat.beq g 12=false) (h2:Nat.beq g qpt=false) (h3:Nat.beq g 25=false):jcp FC3 g vs h=jcp F12 g vs h:=(jbf (S:=SC3) (F:=FC2) h1).trans ((j4h h2).trans (jbf (S:=SC1) (F:=F12) h3))
end
end Go.Proofs.Ytalbjjoppndjjaa.Ev
