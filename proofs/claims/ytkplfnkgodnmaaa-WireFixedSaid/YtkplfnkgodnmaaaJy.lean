/- Flow of any function: is what is used made? -/
import Derived.Test.YtkplfnkgodnmaaaJv
import Derived.KernelRfl
namespace Go.Proofs.Ytkplfnkgodnmaaa.Ev
noncomputable section
open Go Go.RowKit Go.Proofs.Ytkplfnkgodnmaaa.Ms
attribute [local go_sem] Int.reduceToNat reduceCtorEq Nat.reduceAdd Nat.reduceMul Nat.reduceEqDiff Int.reduceEq Int.reduceLT Int.reduceLE Int.reduceNeg Int.reduceAdd Int.reduceSub Int.reduceMul Int.reduceNe
attribute [local go_sem ↓] reduceIte
set_option linter.all false
set_option maxRecDepth 100000
set_option maxHeartbeats 8000000
variable {a x0 x1 x2 x3 x4 x5 x6 x7 x8 x9 x10 x11 x12 x13 x14 x15 x16 x17 x18 x19 x20 x21 x22 x23 x24 x25 x26 x27 x28 x29 x30 x31 x32 x33:AV} {Q:Ex->St->Prop} {f:Fc} {G:Fns} {h:Hp} {o bc nv:Nat}
section
variable {F:Fns} (S:SF F)
include S
theorem qed {n:Nat} {L pl:Nat->Nat} {D:Nat->Option Nat} (T:IdT n L pl D) {b t:Nat} (hb:b<n) {l:List Ms.Opd} (hl:l.length<=10000) (hall:∀ u,u∈l->u.value<nv) :
 ∀ (d i:Nat) (_:i+d=l.length) {hi:Hp} (_:j_Sp n nv o hi) {x14 x18 x20:AV}
  (hQ:∀ hj x14 x18 x20,Gw hi hj->Q (.exit 4) (.mk [x0,IDV n L pl D,x2,x3,x4,x5,x6,x7,x8,x9,x10,x11,x12,x13,x14,vi t,vi b,.s (.slice o 0 nv nv true 2),x18,.s (jag jbc l),x20,vi l.length,vi l.length,x23,x24,x25,x26,x27,x28,x29,x30,x31,x32,x33] hj))
  (hR:∀ fr hj,jbp fr 2=some (vb false)->Gw hi hj->Q .ret (.mk fr hj)),
  W F jh9.loop (.mk [x0,IDV n L pl D,x2,x3,x4,x5,x6,x7,x8,x9,x10,x11,x12,x13,x14,vi t,vi b,.s (.slice o 0 nv nv true 2),x18,.s (jag jbc l),x20,vi l.length,vi i,x23,x24,x25,x26,x27,x28,x29,x30,x31,x32,x33] hi) Q
 | 0,i,hd,hi,K,x14,x18,x20,hQ,hR=>by
  obtain rfl:i=l.length:=by omega
  have ok:=K.ok
  rw[jae]
  unfold jh9
  simp(disch:=first|omega|rfl) only[go_sem,f0q]
  exact hQ hi _ _ _ (.self ok)
 | d+1,i,hd,hi,K,x14,x18,x20,hQ,hR=>by
  have hil:i<l.length:=by omega
  have hlt:(i:Int)<l.length:=by omega
  have hs:(i:Int)+1=((i+1:Nat):Int):=by omega
  obtain⟨e,hget⟩:∃ x,l[i]?=some x:=⟨_,f0b (by omega)⟩
  have he:=hall e (f0c hget)
  have ok:=K.ok
  obtain⟨kd,vl,lt',lm,nn⟩:=e
  have hix:=jaf (enc:=jbc) (size:=5) hget rfl
  have i2:=ixS (b:=o) he
  simp only at i2
  obtain⟨hA,eA,gA,nA,xA⟩:=nwG ok [.int .i64 0,.int .i64 0,.bool false,.int .i64 0,.int .i64 0] [si kd,si vl,.bool lt',si lm,si nn] 92
  have okA:=gA.ok
  have KA:=K.up gA
  rw[jae]
  unfold jh9 jrb
  by_cases c:(kd:Int)=1
  .obtain ⟨q,r,e1,e2,e3⟩:=KA.rd he
   simp only at e2
   simp(disch:=first|omega|rfl) only[go_sem,jac,eq_true hlt,hix,jbc,eA,xA,eq_true c,i2,e1,e2]
   refine WC.imp (j3x S T okA (q:=r) (r:=(b,(t:Int))) hb) ?_
   rintro _ hB ⟨⟨z,rfl⟩,gB⟩
   have okB:=gB.ok
   cases z with
   | true =>
    simp(disch:=first|omega|rfl) only[go_sem,jac,hs]
    exact qed T hb hl hall d (i+1) (by omega) (KA.up gB) (fun hj x14 x18 x20 g=>hQ hj x14 x18 x20 (gA.trans (gB.trans g))) (fun fr hj h g=>hR fr hj h (gA.trans (gB.trans g)))
   | false =>
    simp(disch:=first|omega|rfl) only[go_sem]
    exact hR _ hB rfl (gA.trans gB)
  .simp (disch:=first|omega|rfl) only[go_sem,jac,eq_true hlt,hix,jbc,eA,xA,eq_false c,hs]
   exact qed T hb hl hall d (i+1) (by omega) KA (fun hj x14 x18 x20 g=>hQ hj x14 x18 x20 (gA.trans g)) (fun fr hj h g=>hR fr hj h (gA.trans g))
theorem qik {n:Nat} {L pl:Nat->Nat} {D:Nat->Option Nat} (T:IdT n L pl D) {b:Nat} (hb:b<n) {l:List Ms.Ins} (hl:l.length<=10000) (hall:∀ x,x∈l->x.ops.length<=6/\∀ u,u∈x.ops->u.value<nv) :
 ∀ (d i:Nat) (_:i+d=l.length) {hi:Hp} (_:j_Sp n nv o hi) {x14 x15 x18 x19 x20 x21 x22 x23 x25:AV}
  (hQ:∀ hj x14 x15 x18 x19 x20 x21 x22 x23 x25,Gw hi hj->Q (.exit 2) (.mk [x0,IDV n L pl D,x2,x3,x4,x5,x6,x7,x8,x9,x10,x11,x12,x13,x14,x15,vi b,.s (.slice o 0 nv nv true 2),x18,x19,x20,x21,x22,x23,.s (jag jdh l),x25,vi l.length,vi l.length,x28,x29,x30,x31,x32,x33] hj))
  (hR:∀ fr hj,jbp fr 2=some (vb false)->Gw hi hj->Q .ret (.mk fr hj)),
  W F jia.loop (.mk [x0,IDV n L pl D,x2,x3,x4,x5,x6,x7,x8,x9,x10,x11,x12,x13,x14,x15,vi b,.s (.slice o 0 nv nv true 2),x18,x19,x20,x21,x22,x23,.s (jag jdh l),x25,vi l.length,vi i,x28,x29,x30,x31,x32,x33] hi) Q
 | 0,i,hd,hi,K,x14,x15,x18,x19,x20,x21,x22,x23,x25,hQ,hR=>by
  obtain rfl:i=l.length:=by omega
  have ok:=K.ok
  rw[jae]
  unfold jia
  simp(disch:=first|omega|rfl) only[go_sem,f0q]
  exact hQ hi _ _ _ _ _ _ _ _ _ (.self ok)
 | d+1,i,hd,hi,K,x14,x15,x18,x19,x20,x21,x22,x23,x25,hQ,hR=>by
  have hil:i<l.length:=by omega
  have hlt:(i:Int)<l.length:=by omega
  have hs:(i:Int)+1=((i+1:Nat):Int):=by omega
  obtain⟨e,hget⟩:∃ x,l[i]?=some x:=⟨_,f0b (by omega)⟩
  have he:=hall e (f0c hget)
  have ok:=K.ok
  obtain⟨he1,he2⟩:=he
  have hix:=jaf (enc:=jdh) (size:=3) hget rfl
  obtain⟨hA,eA,gA,nA,xA⟩:=nwG ok [.int .i64 0,.nilSlice,.nilSlice] [si e.op,jag jbc e.ops,jag jcu e.spoils] 73
  have okA:=gA.ok
  have l1:=jad (enc:=jbc) (l:=e.ops)
  have KA:=K.up gA
  rw[jae]
  unfold jia jrc
  simp(disch:=first|omega|rfl) only[go_sem,jac,eq_true hlt,hix,jdh,eA,xA,l1]
  refine qed S T hb (t:=i) (by omega) he2 e.ops.length 0 (by omega) KA (fun hj x14 x18 x20 g2=>?_) (fun fr hj h g2=>?_)
  .have okj:=g2.ok
   simp(disch:=first|omega|rfl) only[go_sem,jac,hs]
   exact qik T hb hl hall d (i+1) (by omega) (KA.up g2) (fun hk x14 x15 x18 x19 x20 x21 x22 x23 x25 g=>hQ hk x14 x15 x18 x19 x20 x21 x22 x23 x25 (gA.trans (g2.trans g))) (fun fr hk h g=>hR fr hk h (gA.trans (g2.trans g)))
  .simp (disch:=first|omega|rfl) only[go_sem]
   exact hR fr hj h (gA.trans g2)
theorem qil {n:Nat} {L pl:Nat->Nat} {D:Nat->Option Nat} (T:IdT n L pl D) {b:Nat} {B:Blk} (hb:b<n) {l:List Nat} (hl:l.length<=10000) (hall:∀ v,v∈l->v<nv) :
 ∀ (d i:Nat) (_:i+d=l.length) {hi:Hp} (_:j_Sp n nv o hi) (_:hi.get bc=some (.arr [jag jak B.params,jag jdh B.instrs,jag jdu B.edges] 54)) (_:bc<hi.next) {x3 x4 x6:AV}
  (hQ:∀ hj x3 x4 x6,Gw hi hj->Q (.exit 8) (.mk [x0,IDV n L pl D,x2,x3,x4,.s (jag jak l),x6,vi l.length,vi l.length,x9,x10,x11,x12,x13,x14,x15,vi b,.s (.slice o 0 nv nv true 2),x18,x19,x20,x21,x22,x23,x24,x25,x26,x27,.s (.ptr bc 0),x29,x30,x31,x32,x33] hj))
  (hR:∀ fr hj,jbp fr 2=some (vb false)->Gw hi hj->Q .ret (.mk fr hj)),
  W F jib.loop (.mk [x0,IDV n L pl D,x2,x3,x4,.s (jag jak l),x6,vi l.length,vi i,x9,x10,x11,x12,x13,x14,x15,vi b,.s (.slice o 0 nv nv true 2),x18,x19,x20,x21,x22,x23,x24,x25,x26,x27,.s (.ptr bc 0),x29,x30,x31,x32,x33] hi) Q
 | 0,i,hd,hi,K,xb,lb,x3,x4,x6,hQ,hR=>by
  obtain rfl:i=l.length:=by omega
  have ok:=K.ok
  rw[jae]
  unfold jib
  simp(disch:=first|omega|rfl) only[go_sem,f0q]
  exact hQ hi _ _ _ (.self ok)
 | d+1,i,hd,hi,K,xb,lb,x3,x4,x6,hQ,hR=>by
  have hil:i<l.length:=by omega
  have hlt:(i:Int)<l.length:=by omega
  have hs:(i:Int)+1=((i+1:Nat):Int):=by omega
  obtain⟨e,hget⟩:∃ x,l[i]?=some x:=⟨_,f0b (by omega)⟩
  have he:=hall e (f0c hget)
  have ok:=K.ok
  have hix:=jaf (enc:=jak) (size:=1) hget rfl
  have i2:=ixS (b:=o) he
  obtain⟨q,r,e1,e2,e3⟩:=K.rd he
  have l1:=jad (enc:=jdh) (l:=B.instrs)
  rw[jae]
  unfold jib jre jrd
  simp(disch:=first|omega|rfl) only[go_sem,jac,eq_true hlt,hix,jak,i2,e1,e2,xb,l1]
  refine WC.imp (j3x S T ok (q:=r) (r:=(b,(B.instrs.length:Int))) hb) ?_
  rintro _ hB ⟨⟨z,rfl⟩,gB⟩
  have okB:=gB.ok
  cases z with
  | true =>
   simp(disch:=first|omega|rfl) only[go_sem,jac,hs]
   exact qil T hb hl hall d (i+1) (by omega) (K.up gB) ((gB.g _ lb).trans xb) (f0m lb gB.nx) (fun hj x3 x4 x6 g=>hQ hj x3 x4 x6 (gB.trans g)) (fun fr hj h g=>hR fr hj h (gB.trans g))
  | false =>
   simp(disch:=first|omega|rfl) only[go_sem]
   exact hR _ hB rfl gB
theorem qim {n:Nat} {L pl:Nat->Nat} {D:Nat->Option Nat} (T:IdT n L pl D) {b:Nat} {B:Blk} (hb:b<n) {l:List Ms.Edg} (hl:l.length<=10000) (hall:∀ e,e∈l->e.args.length<=10000/\∀ v,v∈e.args->v<nv) :
 ∀ (d i:Nat) (_:i+d=l.length) {hi:Hp} (_:j_Sp n nv o hi) (_:hi.get bc=some (.arr [jag jak B.params,jag jdh B.instrs,jag jdu B.edges] 54)) (_:bc<hi.next) {x3 x4 x5 x6 x7 x8 x9 x11:AV}
  (hQ:∀ hj x3 x4 x5 x6 x7 x8 x9 x11,Gw hi hj->Q (.exit 6) (.mk [x0,IDV n L pl D,x2,x3,x4,x5,x6,x7,x8,x9,.s (jag jdu l),x11,vi l.length,vi l.length,x14,x15,vi b,.s (.slice o 0 nv nv true 2),x18,x19,x20,x21,x22,x23,x24,x25,x26,x27,.s (.ptr bc 0),x29,x30,x31,x32,x33] hj))
  (hR:∀ fr hj,jbp fr 2=some (vb false)->Gw hi hj->Q .ret (.mk fr hj)),
  W F jic.loop (.mk [x0,IDV n L pl D,x2,x3,x4,x5,x6,x7,x8,x9,.s (jag jdu l),x11,vi l.length,vi i,x14,x15,vi b,.s (.slice o 0 nv nv true 2),x18,x19,x20,x21,x22,x23,x24,x25,x26,x27,.s (.ptr bc 0),x29,x30,x31,x32,x33] hi) Q
 | 0,i,hd,hi,K,xb,lb,x3,x4,x5,x6,x7,x8,x9,x11,hQ,hR=>by
  obtain rfl:i=l.length:=by omega
  have ok:=K.ok
  rw[jae]
  unfold jic
  simp(disch:=first|omega|rfl) only[go_sem,f0q]
  exact hQ hi _ _ _ _ _ _ _ _ (.self ok)
 | d+1,i,hd,hi,K,xb,lb,x3,x4,x5,x6,x7,x8,x9,x11,hQ,hR=>by
  have hil:i<l.length:=by omega
  have hlt:(i:Int)<l.length:=by omega
  have hs:(i:Int)+1=((i+1:Nat):Int):=by omega
  obtain⟨e,hget⟩:∃ x,l[i]?=some x:=⟨_,f0b (by omega)⟩
  have he:=hall e (f0c hget)
  have ok:=K.ok
  obtain⟨he1,he2⟩:=he
  have hix:=jaf (enc:=jdu) (size:=2) hget rfl
  obtain⟨hA,eA,gA,nA,xA⟩:=nwG ok [.int .i64 0,.nilSlice] [si e.block,jag jak e.args] 76
  have okA:=gA.ok
  have l1:=jad (enc:=jak) (l:=e.args)
  have KA:=K.up gA
  rw[jae]
  unfold jic jrf
  simp(disch:=first|omega|rfl) only[go_sem,jac,eq_true hlt,hix,jdu,eA,xA,l1]
  refine qil S T hb (B:=B) he1 he2 e.args.length 0 (by omega) KA ((gA.g _ lb).trans xb) (by omega) (fun hj x3 x4 x6 g2=>?_) (fun fr hj h g2=>?_)
  .have okj:=g2.ok
   have G:=gA.trans g2
   simp(disch:=first|omega|rfl) only[go_sem,jac,hs]
   exact qim T hb hl hall d (i+1) (by omega) (K.up G) ((G.g _ lb).trans xb) (f0m lb G.nx) (fun hk x3 x4 x5 x6 x7 x8 x9 x11 g=>hQ hk x3 x4 x5 x6 x7 x8 x9 x11 (G.trans g)) (fun fr hk h g=>hR fr hk h (G.trans g))
  .simp (disch:=first|omega|rfl) only[go_sem]
   exact hR fr hj h (gA.trans g2)
theorem qin {n:Nat} {L pl:Nat->Nat} {D:Nat->Option Nat} (T:IdT n L pl D) {l:List Blk} (hn:l.length<=n) (hl:l.length<=10000) (hall:∀ b,b∈l->b.instrs.length<=40/\b.edges.length<=3/\(∀ x,x∈b.instrs->x.ops.length<=6/\∀ u,u∈x.ops->u.value<nv)/\∀ e,e∈b.edges->e.args.length<=10000/\∀ v,v∈e.args->v<nv) :
 ∀ (d i:Nat) (_:i+d=l.length) {hi:Hp} (_:j_Sp n nv o hi) {x3 x4 x5 x6 x7 x8 x9 x10 x11 x12 x13 x14 x15 x16 x18 x19 x20 x21 x22 x23 x24 x25 x26 x27 x28 x30:AV}
  (hQ:∀ hj x3 x4 x5 x6 x7 x8 x9 x10 x11 x12 x13 x14 x15 x16 x18 x19 x20 x21 x22 x23 x24 x25 x26 x27 x28 x30,Gw hi hj->Q (.exit 0) (.mk [x0,IDV n L pl D,x2,x3,x4,x5,x6,x7,x8,x9,x10,x11,x12,x13,x14,x15,x16,.s (.slice o 0 nv nv true 2),x18,x19,x20,x21,x22,x23,x24,x25,x26,x27,x28,.s (jag jax l),x30,vi l.length,vi l.length,x33] hj))
  (hR:∀ fr hj,jbp fr 2=some (vb false)->Gw hi hj->Q .ret (.mk fr hj)),
  W F jid.loop (.mk [x0,IDV n L pl D,x2,x3,x4,x5,x6,x7,x8,x9,x10,x11,x12,x13,x14,x15,x16,.s (.slice o 0 nv nv true 2),x18,x19,x20,x21,x22,x23,x24,x25,x26,x27,x28,.s (jag jax l),x30,vi l.length,vi i,x33] hi) Q
 | 0,i,hd,hi,K,x3,x4,x5,x6,x7,x8,x9,x10,x11,x12,x13,x14,x15,x16,x18,x19,x20,x21,x22,x23,x24,x25,x26,x27,x28,x30,hQ,hR=>by
  obtain rfl:i=l.length:=by omega
  have ok:=K.ok
  rw[jae]
  unfold jid
  simp(disch:=first|omega|rfl) only[go_sem,f0q]
  exact hQ hi _ _ _ _ _ _ _ _ _ _ _ _ _ _ _ _ _ _ _ _ _ _ _ _ _ _ (.self ok)
 | d+1,i,hd,hi,K,x3,x4,x5,x6,x7,x8,x9,x10,x11,x12,x13,x14,x15,x16,x18,x19,x20,x21,x22,x23,x24,x25,x26,x27,x28,x30,hQ,hR=>by
  have hil:i<l.length:=by omega
  have hlt:(i:Int)<l.length:=by omega
  have hs:(i:Int)+1=((i+1:Nat):Int):=by omega
  obtain⟨e,hget⟩:∃ x,l[i]?=some x:=⟨_,f0b (by omega)⟩
  have he:=hall e (f0c hget)
  have ok:=K.ok
  obtain⟨he1,he2,he3,he4⟩:=he
  have hix:=jaf (enc:=jax) (size:=3) hget rfl
  obtain⟨hA,eA,gA,nA,xA⟩:=nwG ok [.nilSlice,.nilSlice,.nilSlice] [jag jak e.params,jag jdh e.instrs,jag jdu e.edges] 54
  have okA:=gA.ok
  have l1:=jad (enc:=jdh) (l:=e.instrs)
  have l2:=jad (enc:=jdu) (l:=e.edges)
  have KA:=K.up gA
  rw[jae]
  unfold jid jrg
  simp(disch:=first|omega|rfl) only[go_sem,jac,eq_true hlt,hix,jax,eA,xA,l1]
  refine qik S T (b:=i) (by omega) (by omega) he3 e.instrs.length 0 (by omega) KA (fun hj x14 x15 x18 x19 x20 x21 x22 x23 x25 g2=>?_) (fun fr hj h g2=>?_)
  .have okj:=g2.ok
   have G:=gA.trans g2
   have yA:=(g2.g hi.next (by omega)).trans xA
   have nj:=g2.nx
   simp(disch:=first|omega|rfl) only[go_sem,jac,yA,l2]
   refine qim S T (b:=i) (B:=e) (by omega) (by omega) he4 e.edges.length 0 (by omega) (K.up G) yA (by omega) (fun hk x3 x4 x5 x6 x7 x8 x9 x11 g3=>?_) (fun fr hk h g3=>?_)
   .have okk:=g3.ok
    simp(disch:=first|omega|rfl) only[go_sem,jac,hs]
    exact qin T hn hl hall d (i+1) (by omega) (K.up (G.trans g3)) (fun hm x3 x4 x5 x6 x7 x8 x9 x10 x11 x12 x13 x14 x15 x16 x18 x19 x20 x21 x22 x23 x24 x25 x26 x27 x28 x30 g4=>hQ hm x3 x4 x5 x6 x7 x8 x9 x10 x11 x12 x13 x14 x15 x16 x18 x19 x20 x21 x22 x23 x24 x25 x26 x27 x28 x30 (G.trans (g3.trans g4))) (fun fr hm h g4=>hR fr hm h (G.trans (g3.trans g4)))
   .simp (disch:=first|omega|rfl) only[go_sem]
    exact hR fr hk h (G.trans g3)
  .simp (disch:=first|omega|rfl) only[go_sem]
   exact hR fr hj h (gA.trans g2)
theorem j76 (ok:Ok h) (hf:ShT f) (ha:Shrt f) {L pl:Nat->Nat} {D:Nat->Option Nat} (T:IdT f.blocks.length L pl D):WC F 37 [FA f,IDV f.blocks.length L pl D] h (fun v h'=>(∃ t,v=vb t)/\Gw h h'):=by
 refine jan (S.X _ (by simp) _ _) ((S.T _).trans qd0) rfl ?_
 unfold jvi
 have n1:=hf.n1
 have n2:=hf.n2
 have l2:=jad (enc:=jax) (l:=f.blocks)
 obtain⟨hA,eA,gA,nA,xA⟩:=bxG ok [jag jak f.values,jag jax f.blocks] 29
 have okA:=gA.ok
 simp(disch:=first|omega|rfl) only[go_sem,eA,xA]
 refine WC.imp (j31 S okA hf) ?_
 rintro _ hB ⟨rfl,gB,K⟩
 have okB:=gB.ok
 have yA:=(gB.g h.next (by omega)).trans xA
 simp(disch:=first|omega|rfl) only[go_sem,yA,l2]
 refine qin S T (f0d _) (by omega) (fun b hb=>?_) f.blocks.length 0 (by omega) K (fun hj x3 x4 x5 x6 x7 x8 x9 x10 x11 x12 x13 x14 x15 x16 x18 x19 x20 x21 x22 x23 x24 x25 x26 x27 x28 x30 g2=>?_) (fun fr hj e g2=>?_)
 .have sz:=hf.bs b hb
  have bl:=hf.bl b hb
  exact⟨sz.i,sz.e,fun x hx=>⟨(sz.x x hx).1,fun u hu=>((bl.x x hx).o u hu).v⟩,fun e he=>⟨ha.a b hb e he,(bl.e e he).a⟩⟩
 .have okj:=g2.ok
  simp(disch:=first|omega|rfl) only[go_sem]
  exact⟨⟨_,rfl⟩,gA.trans (gB.trans g2)⟩
 .simp (disch:=first|omega|rfl) only[go_sem,e]
  exact⟨⟨_,rfl⟩,gA.trans (gB.trans g2)⟩
end
theorem gdA {a b:SV} (ha:grd a=true) (hb:grd b=true):jwq (.agg [a,b])=true:=by
 show oif (grd a) (oif (grd b) true false) false=true
 rw[ha,hb];rfl
theorem gd1 (ha:jwq a=true):jfr [a]=true:=by
 show oif (jwq a) true false=true
 rw[ha];rfl
theorem gd2 {b:AV} (ha:jwq a=true) (hb:jwq b=true):jfr [a,b]=true:=by
 show oif (jwq a) (oif (jwq b) true false) false=true
 rw[ha,hb];rfl
theorem jtk {α:Type} {F:Fns} {f:FuncId} {vs:List AV} {P:α->AV->Hp->Prop} (k:WC F f vs h (fun v h'=>∃ a,P a v h')):∃ a,WC F f vs h (P a):=by
 obtain⟨n,v,h',h1,a,h2⟩:=k
 exact⟨a,n,v,h',h1,h2⟩
theorem qaj {x:SV} {l:List Nat} {b:Nat} {kk:Bool} (k:OL 3 1 jak h x l b):jc0 kk h 2 x=some (jag jak l):=by
 rcases k with⟨rfl,rfl,_⟩ | ⟨h1,rfl,_,_,h5⟩
 .rfl
 .rw [jmb] at h5
  exact j3u (g:=fun a:Nat=>si (a:Int)) h1 h5 (fun _ _=>rfl)
abbrev INV (n:Nat) (P:Nat->List Nat):SV:=jag (fun j=>[jag jak (P j)]) (List.range n)
theorem qio {n k:Nat} {P:Nat->List Nat} {kk:Bool} (n1:1<=n) (a:qe7 n k h P):jc0 kk h 3 (.slice (k+1) 0 n n true 1)=some (INV n P):=by
 obtain⟨xs,bs,h1,h2,h3,h4⟩:=a
 have hl:(List.range n)≠[]:=fun h=>by have:=congrArg List.length h;simp at this;omega
 have s:Sl h 26 1 true (fun row a (ms:List Nat)=>row=[xs a]/\jc0 kk h 2 (xs a)=some (jag jak (P a))) (.slice (k+1) 0 n n true 1) (List.range n) [k+1]:=.inr ⟨hl,k+1,_,[],by rw[List.length_range],by rw[j3t];exact h1,jpg (fun j _=>qaj (h2 j)),rfl⟩
 refine s.frz (enc:=fun j=>[jag jak (P j)]) (d:=2) (fun row a ms e=>?_) (fun _=>rfl)
 obtain⟨rfl,e⟩:=e
 show ob (jc0 kk h 2 (xs a)) _=_
 rw[e];rfl
def SJ (f:FuncId):Bool:=Nat.beq f 34||(Nat.beq f 35||(Nat.beq f 36||(Nat.beq f 38||Nat.beq f 37)))
def FJ (F:Fns):Fns:=PX SJ F
section
variable {F:Fns} (S:SF F)
include S
theorem qip (hf:Shrt f) {m:Nat×Nat}:∃ e:Int,(e=0->ShT f)/\∀ h (Q:AV->Hp->Prop),WC (FJ F) 34 [.agg [jag jak f.values,jag jax f.blocks],.agg [si m.1,si m.2]] h Q=Q (vi e) h:=by
 obtain⟨e,he⟩:=jtk (P:=fun(e:Int) v h'=>(e=0->ShT f)/\v=vi e) (WC.imp (qn4 S ji8 hf (m:=m)) (fun v h' ⟨e,h1,h2,_⟩=>⟨e,h2,h1⟩))
 have h0:e=0->ShT f:=by obtain⟨_,_,_,_,h,_⟩:=he;exact h
 refine⟨e,h0,fun h Q=>jl8 (jdl rfl (gd2 (gdA ja8 ja8) rfl) (WC.imp he ?_))⟩
 rintro v h' ⟨_,rfl⟩
 exact⟨1,rfl⟩
theorem qiq (hf:ShT f):∃ l,Ord f l/\∀ h (Q:AV->Hp->Prop),WC (FJ F) 35 [.agg [jag jak f.values,jag jax f.blocks]] h Q=Q (.s (jag jak l)) h:=by
 obtain⟨l,he⟩:=jtk (P:=fun(l:List Nat) v h'=>Ord f l/\∃ d,jml true h' d v=some (.s (jag jak l))) (WC.imp (j3h S ji8 hf) (fun v h' ⟨x,l,b,h1,h2,_,_,h5⟩=>⟨l,h5,2,by subst h1;show ob (jc0 true h' 2 x) _=_;rw[qaj h2];rfl⟩))
 have ho:Ord f l:=by obtain⟨_,_,_,_,h,_⟩:=he;exact h
 exact⟨l,ho,fun h Q=>jl8 (jdl rfl (gd1 (gdA ja8 ja8)) (WC.imp he (fun v h' ⟨_,h⟩=>h)))⟩
theorem qir (hf:ShT f):∃ P,IntT f P/\∀ h (Q:AV->Hp->Prop),WC (FJ F) 36 [.agg [jag jak f.values,jag jax f.blocks]] h Q=Q (.s (INV f.blocks.length P)) h:=by
 obtain⟨P,he⟩:=jtk (P:=fun(P:Nat->List Nat) v h'=>IntT f P/\∃ d,jml true h' d v=some (.s (INV f.blocks.length P))) (WC.imp (jvr S ji8 hf) (fun v h' ⟨P,h1,h2,_,_,h5⟩=>⟨P,h5,3,by subst h1;show ob (jc0 true h' 3 (.slice (h0.next+1) 0 f.blocks.length f.blocks.length true 1)) _=_;rw[qio hf.n1 h2];rfl⟩))
 have ho:IntT f P:=by obtain⟨_,_,_,_,h,_⟩:=he;exact h
 exact⟨P,ho,fun h Q=>jl8 (jdl rfl (gd1 (gdA ja8 ja8)) (WC.imp he (fun v h' ⟨_,h⟩=>h)))⟩
theorem qis (hf:ShT f) {l:List Nat} (ho:Ord f l) (hl:l.length=f.blocks.length):∃ L pl D,IdT f.blocks.length L pl D/\∀ h (Q:AV->Hp->Prop),WC (FJ F) 38 [.agg [jag jak f.values,jag jax f.blocks],.s (jag jak l)] h Q=Q (IDV f.blocks.length L pl D) h:=by
 have n1:=hf.n1
 have hr:(List.range f.blocks.length)≠[]:=fun h=>by have h2:=congrArg List.length h;rw[List.length_range] at h2;have h3:f.blocks.length=0:=h2;omega
 have key:=WC.imp (qec S ji8 hf ho hl) (Q':=fun v h'=>∃ a:(Nat->Nat)×(Nat->Nat)×(Nat->Option Nat),IdT f.blocks.length a.1 a.2.1 a.2.2/\∃ d,jml true h' d v=some (IDV f.blocks.length a.1 a.2.1 a.2.2)) (fun v h' ⟨L,pl,D,d,h1,_,_,_,h5,h6⟩=>⟨(L,pl,D),h6,2,by
  subst h1
  have:=j3u (kk:=true) (ex:=true) (g:=idA L pl D) hr h5 (fun a _=>by
   show jc0 true h' 1 (if a=0 then si (-1) else dv L (D (pl a)))=some (if a=0 then si (-1) else dv L (D (pl a)))
   by_cases e:a=0
   .rw [if_pos e];rfl
   .rw [if_neg e]
    cases D (pl a)<;>rfl)
  rw[List.length_range] at this
  show ob (jc0 true h' 2 (.slice d 0 f.blocks.length f.blocks.length true 1)) _=_
  rw[this];rfl⟩)
 obtain⟨⟨L,pl,D⟩,he⟩:=jtk key
 have ho:IdT f.blocks.length L pl D:=by obtain⟨_,_,_,_,h,_⟩:=he;exact h
 exact⟨L,pl,D,ho,fun h Q=>jl8 (jdl rfl (gd2 (gdA ja8 ja8) ja8) (WC.imp he (fun v h' ⟨_,h⟩=>h)))⟩
theorem qit (hf:ShT f) (ha:Shrt f) {L pl:Nat->Nat} {D:Nat->Option Nat} (T:IdT f.blocks.length L pl D):∃ t,∀ h (Q:AV->Hp->Prop),WC (FJ F) 37 [.agg [jag jak f.values,jag jax f.blocks],IDV f.blocks.length L pl D] h Q=Q (vb t) h:=by
 obtain⟨t,he⟩:=jtk (P:=fun(t:Bool) v h'=>v=vb t) (WC.imp (j76 S ji8 hf ha T) (fun v h' ⟨⟨t,h⟩,_⟩=>⟨t,h⟩))
 refine⟨t,fun h Q=>jl8 (jdl rfl (gd2 (gdA ja8 ja8) ja8) (WC.imp he ?_))⟩
 rintro v h' rfl
 exact⟨1,rfl⟩
omit S in
theorem ixN {n v:Nat} {P:Nat->List Nat} (h:v<n):jj3 1 (.s (INV n P)) (vi (v:Int))=some (.s (.cp [jag jak (P v)])) :=
 jaf (enc:=fun j=>[jag jak (P j)]) (size:=1) (f18 h) rfl
omit S in
theorem qee {n:Nat} {P:Nat->List Nat} {ps is:SV} {l:List Ms.Edg} (hl:l.length<=10000) (hall:∀ e,e∈l->e.block<n) :
 ∀ (d i:Nat) (_:i+d=l.length) {hi:Hp} (_:Ok hi) (_:bc<hi.next) (_:hi.get bc=some (.arr [ps,is,jag jdu l] 54)) {x4 x5 x8:AV}
  (hQ:∀ hj x4 x5 x8,Gw hi hj->Q (.exit 2) (.mk [x0,x1,x2,x3,x4,x5,.s (INV n P),.s (jag jdu l),x8,vi l.length,vi l.length,.s (.ptr bc 0),x12,x13,x14,x15,x16,x17,x18,x19,x20] hj))
  (hR:∀ fr hj,jbp fr 2=some (vi 11)->Gw hi hj->Q .ret (.mk fr hj)),
  W G jie.loop (.mk [x0,x1,x2,x3,x4,x5,.s (INV n P),.s (jag jdu l),x8,vi l.length,vi i,.s (.ptr bc 0),x12,x13,x14,x15,x16,x17,x18,x19,x20] hi) Q
 | 0,i,hd,hi,ok,lb,xb,x4,x5,x8,hQ,hR=>by
  obtain rfl:i=l.length:=by omega
  rw[jae]
  unfold jie
  simp(disch:=first|omega|rfl) only[go_sem,f0q]
  exact hQ hi _ _ _ (.self ok)
 | d+1,i,hd,hi,ok,lb,xb,x4,x5,x8,hQ,hR=>by
  have hlt:(i:Int)<l.length:=by omega
  have hs:(i:Int)+1=((i+1:Nat):Int):=by omega
  obtain⟨e,hget⟩:∃ x,l[i]?=some x:=⟨_,f0b (by omega)⟩
  have he:=hall e (f0c hget)
  have hix:=jaf (enc:=jdu) (size:=2) hget rfl
  obtain⟨hA,eA,gA,nA,xA⟩:=nwG ok [.int .i64 0,.nilSlice] [si e.block,jag jak e.args] 76
  have okA:=gA.ok
  have yb:=(gA.g _ lb).trans xb
  have l1:=jad (enc:=jdu) (l:=l)
  have l2:=jad (enc:=jak) (l:=P e.block)
  have i2:=ixN (P:=P) he
  rw[jae]
  unfold jie jrj
  by_cases c:(1:Int)<(l.length:Int)
  .by_cases c2:(1:Int)<((P e.block).length:Int)
   .simp (disch:=first|omega|rfl) only[go_sem,jac,eq_true hlt,hix,jdu,eA,xA,yb,l1,eq_true c,i2,l2,eq_true c2]
    exact hR _ _ rfl gA
   .simp (disch:=first|omega|rfl) only[go_sem,jac,eq_true hlt,hix,jdu,eA,xA,yb,l1,eq_true c,i2,l2,eq_false c2,hs]
    exact qee hl hall d (i+1) (by omega) okA (by omega) yb (fun hj x4 x5 x8 g=>hQ hj x4 x5 x8 (gA.trans g)) (fun fr hj h g=>hR fr hj h (gA.trans g))
  .simp (disch:=first|omega|rfl) only[go_sem,jac,eq_true hlt,hix,jdu,eA,xA,yb,l1,eq_false c,hs]
   exact qee hl hall d (i+1) (by omega) okA (by omega) yb (fun hj x4 x5 x8 g=>hQ hj x4 x5 x8 (gA.trans g)) (fun fr hj h g=>hR fr hj h (gA.trans g))
omit S in
theorem qiu {n:Nat} {P:Nat->List Nat} {l:List Blk} (hl:l.length<=10000) (hall:∀ b,b∈l->b.edges.length<=3/\∀ e,e∈b.edges->e.block<n) :
 ∀ (d i:Nat) (_:i+d=l.length) {hi:Hp} (_:Ok hi) {x4 x5 x7 x8 x9 x10 x11 x13:AV}
  (hQ:∀ hj x4 x5 x7 x8 x9 x10 x11 x13,Gw hi hj->Q (.exit 0) (.mk [x0,x1,x2,x3,x4,x5,.s (INV n P),x7,x8,x9,x10,x11,.s (jag jax l),x13,vi l.length,vi l.length,x16,x17,x18,x19,x20] hj))
  (hR:∀ fr hj,jbp fr 2=some (vi 11)->Gw hi hj->Q .ret (.mk fr hj)),
  W G jif.loop (.mk [x0,x1,x2,x3,x4,x5,.s (INV n P),x7,x8,x9,x10,x11,.s (jag jax l),x13,vi l.length,vi i,x16,x17,x18,x19,x20] hi) Q
 | 0,i,hd,hi,ok,x4,x5,x7,x8,x9,x10,x11,x13,hQ,hR=>by
  obtain rfl:i=l.length:=by omega
  rw[jae]
  unfold jif
  simp(disch:=first|omega|rfl) only[go_sem,f0q]
  exact hQ hi _ _ _ _ _ _ _ _ (.self ok)
 | d+1,i,hd,hi,ok,x4,x5,x7,x8,x9,x10,x11,x13,hQ,hR=>by
  have hlt:(i:Int)<l.length:=by omega
  have hs:(i:Int)+1=((i+1:Nat):Int):=by omega
  obtain⟨e,hget⟩:∃ x,l[i]?=some x:=⟨_,f0b (by omega)⟩
  obtain⟨he1,he2⟩:=hall e (f0c hget)
  have hix:=jaf (enc:=jax) (size:=3) hget rfl
  obtain⟨hA,eA,gA,nA,xA⟩:=nwG ok [.nilSlice,.nilSlice,.nilSlice] [jag jak e.params,jag jdh e.instrs,jag jdu e.edges] 54
  have okA:=gA.ok
  have l1:=jad (enc:=jdu) (l:=e.edges)
  rw[jae]
  unfold jif jrk
  simp(disch:=first|omega|rfl) only[go_sem,jac,eq_true hlt,hix,jax,eA,xA,l1]
  refine qee (n:=n) (P:=P) (by omega) he2 e.edges.length 0 (by omega) okA (by omega) xA (fun hj x4 x5 x8 g2=>?_) (fun fr hj h g2=>?_)
  .have okj:=g2.ok
   simp(disch:=first|omega|rfl) only[go_sem,jac,hs]
   exact qiu hl hall d (i+1) (by omega) okj (fun hk x4 x5 x7 x8 x9 x10 x11 x13 g=>hQ hk x4 x5 x7 x8 x9 x10 x11 x13 (gA.trans (g2.trans g))) (fun fr hk h g=>hR fr hk h (gA.trans (g2.trans g)))
  .simp (disch:=first|omega|rfl) only[go_sem]
   exact hR fr hj h (gA.trans g2)
theorem qef (hf:Shrt f) {m:Nat×Nat} (hX:∀ vs h,jeb F 12 vs h=none) (ok:Ok h):WC (FJ F) 12 [FA f,MA m] h (fun v h'=>∃ e:Int,v=vi e/\(e=0->ShT f)):=by
 refine jan ((jcr rfl).trans (hX _ _)) ((S.T _).trans qd2) rfl ?_
 unfold jvk
 obtain⟨e,he,es⟩:=qip S hf (m:=m)
 obtain⟨hA,eA,gA,nA,xA⟩:=bxG ok [jag jak f.values,jag jax f.blocks] 29
 obtain⟨hB,eB,gB,nB,xB⟩:=bxG gA.ok [si m.1,si m.2] 25
 have okA:=gA.ok
 have okB:=gB.ok
 have yA:=(gB.g h.next (by omega)).trans xA
 rw[nA] at xB
 have l2:=jad (enc:=jax) (l:=f.blocks)
 by_cases e0:e=0
 .have hT:=he e0
  have n1:=hT.n1
  have n2:=hT.n2
  obtain⟨l,ho,eo⟩:=qiq S hT
  obtain⟨P,hI,ei⟩:=qir S hT
  have l3:=jad (enc:=jak) (l:=l)
  have c0:(e≠0)=False:=eq_false (fun h=>h e0)
  simp(disch:=first|omega|rfl) only[go_sem,eA,nA,eB,yA,xB,es,c0]
  have c9:(hB.next<=h.next)=False:=eq_false (by omega)
  unfold jro jri
  by_cases c1:(l.length:Int)<(f.blocks.length:Int)
  .simp (disch:=first|omega|rfl) only[go_sem,yA,eo,l3,l2,c9,false_and,if_false,eq_true c1]
   exact⟨16,rfl,fun h=>absurd h (by decide)⟩
  simp(disch:=first|omega|rfl) only[go_sem,yA,eo,l3,l2,c9,false_and,if_false,eq_false c1]
  have hl:l.length=f.blocks.length:=by
   have:l.length<=(List.range f.blocks.length).length:=jpf ho.1 (fun x hx=>f1z.2 (ho.2.1 x hx))
   rw[List.length_range] at this
   omega
  obtain⟨L,pl,D,hD,ed⟩:=qis S hT ho hl
  obtain⟨t,eu⟩:=qit S hT hf hD
  unfold jrn
  simp(disch:=first|omega|rfl) only[go_sem,yA,ei,l2]
  refine qiu (n:=f.blocks.length) (P:=P) (by omega) (fun b hb=>⟨(hT.bs b hb).e,fun e he=>((hT.bl b hb).e e he).b2⟩) f.blocks.length 0 (by omega) okB (fun hj x4 x5 x7 x8 x9 x10 x11 x13 g2=>?_) (fun fr hj h g2=>?_)
  .have okj:=g2.ok
   have zA:=(g2.g h.next (by omega)).trans yA
   unfold jrl
   cases t with
   | true =>
    simp(disch:=first|omega|rfl) only[go_sem,zA,eo,ed,eu]
    unfold jrm
    simp(disch:=first|omega|rfl) only[go_sem]
    exact⟨0,rfl,fun _=>hT⟩
   | false =>
    simp(disch:=first|omega|rfl) only[go_sem,zA,eo,ed,eu]
    exact⟨10,rfl,fun h=>absurd h (by decide)⟩
  .simp (disch:=first|omega|rfl) only[go_sem,h]
   exact⟨11,rfl,fun h=>absurd h (by decide)⟩
 .have c0:(e≠0)=True:=eq_true e0
  simp(disch:=first|omega|rfl) only[go_sem,eA,nA,eB,yA,xB,es,c0]
  exact⟨e,rfl,fun h=>absurd h e0⟩
end
def JF0:Fns:=.mk T (fun _ _ _=>none)
def qjk (F:Fns) (n:Nat) (f:FuncId) (us:List AV) (u:AV):Bool:=Option.rec (motive:=fun _=>Bool) false (fun x=>eqA x u) (ob (jjz F n f us h0) (fun p=>jml true p.2 9 p.1))
theorem j32 {F:Fns} {n:Nat} {f:FuncId} {us:List AV} {u:AV} (h:qjk F n f us u=true):je6 true F f us u:=by
 unfold qjk at h
 cases hr:ob (jjz F n f us h0) (fun p=>jml true p.2 9 p.1) with
 | none=>rw[hr] at h;cases h
 | some x =>
  rw[hr] at h
  obtain rfl:=jzb _ _ h
  obtain⟨p,h1,h2⟩:=jaa.1 hr
  exact⟨n,p.1,p.2,h1,9,h2⟩
theorem qeg:up 17 (fun n=>qjk JF0 400 73 [.s (.int .u64 (.ofNat 1)),.s (.int .u64 (.ofNat n))] (.tup [(false,[.int .u64 (.ofNat 0)]),(false,[.int .u64 (.ofNat n)])]))=true:=by kernel_rfl
def SVJ (f:FuncId):Bool:=Nat.beq f 70||Nat.beq f 73
def GJ:Fns:=PX SVJ JF0
theorem sfJ:SF GJ where
 X:=fun f hf vs h=>by
  have h1:SVJ f=false:=by
   revert f
   decide
  exact jcr h1
 T:=fun f=>rfl
 M:=fun n h hn=>jdl rfl (gd2 rfl rfl) (j32 (qf8 qeg n (by omega)))
 V:=fun f v h=>jdl rfl (gd2 (gdA ja8 ja8) rfl) (qnu (fun _ _=>rfl) rfl ji8)
theorem qeh (hf:Shrt f) (m:Nat×Nat):∃ e:Int,(e=0->ShT f)/\je6 true (FJ GJ) 12 [FA f,MA m] (vi e):=by
 obtain⟨e,he⟩:=jtk (WC.imp (qef sfJ hf (m:=m) (fun vs h=>jcr rfl) ji8) (Q':=fun v h'=>∃ e:Int,(e=0->ShT f)/\∃ d,jml true h' d v=some (vi e)) (fun v h' ⟨e,h1,h2⟩=>⟨e,h2,1,by rw[h1];rfl⟩))
 have h0:e=0->ShT f:=by obtain⟨_,_,_,_,h,_⟩:=he;exact h
 exact⟨e,h0,WC.imp he (fun v h' ⟨_,h⟩=>h)⟩
end
end Go.Proofs.Ytkplfnkgodnmaaa.Ev
