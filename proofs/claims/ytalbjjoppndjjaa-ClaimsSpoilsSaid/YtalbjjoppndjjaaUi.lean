/- Is each value made where it is used? What the code tells. -/
import Derived.Test.YtalbjjoppndjjaaUe
import Derived.Test.YtalbjjoppndjjaaGT1
import Derived.Test.YtalbjjoppndjjaaGT3
import Derived.Test.YtalbjjoppndjjaaGT5
import Derived.Test.YtalbjjoppndjjaaGT7
namespace Go.Proofs.Ytalbjjoppndjjaa.Ev
noncomputable section
open Go Go.RowKit Go.Proofs.Ytalbjjoppndjjaa.Ms
attribute [local go_sem] Int.reduceToNat reduceCtorEq Nat.reduceAdd Nat.reduceMul Nat.reduceEqDiff Int.reduceEq Int.reduceLT Int.reduceLE Int.reduceNeg Int.reduceAdd Int.reduceSub Int.reduceMul Int.reduceNe
attribute [local go_sem ↓] reduceIte
set_option linter.all false
set_option maxRecDepth 100000
set_option maxHeartbeats 2000000
variable {x0 x1 x2 x3 x4 x5 x6 x7 x8 x9 x10 x11 x12 x13 x14 x15 x16 x17 x18 x19 x20 x21 x22 x23 x24 x25 x26 x27 x28 x29 x30 x31 x32 x33:AV} {g:FuncId} {n:Int} {vs:List AV} {idom:List Int} {a v bB:Nat}
def S8 (f:FuncId):Bool:=Nat.beq f 52||(Nat.beq f 42||(Nat.beq f 21||(Nat.beq f 22||(Nat.beq f 24||Nat.beq f 19))))
def F8:Fns:=PX S8 F7
theorem qvb {A:Nat->Int}:Env Try.prog A tys F8:=jgb qux
theorem no8 {f:FuncId} (h1:S1 f=false) (h2:Nat.beq f jfs.f=false) (h3:S3 f=false) (h4:S4 f=false) (h5:S5 f=false) (h6:S6 f=false) (h7:S7 f=false) (h8:S8 f=false) {h:Hp}:jcp F8 f vs h=none:=(jbf h8).trans (no7 h1 h2 h3 h4 h5 h6 h7)
def S9 (f:FuncId):Bool:=Nat.beq f 43
def F9:Fns:=PX S9 F8
theorem qvc {A:Nat->Int}:Env Try.prog A tys F9:=jgb qvb
theorem no9 {f:FuncId} (h1:S1 f=false) (h2:Nat.beq f jfs.f=false) (h3:S3 f=false) (h4:S4 f=false) (h5:S5 f=false) (h6:S6 f=false) (h7:S7 f=false) (h8:S8 f=false) (h9:S9 f=false) {h:Hp}:jcp F9 f vs h=none:=(jbf h9).trans (no8 h1 h2 h3 h4 h5 h6 h7 h8)
theorem qk2 {h:Hp} {Q:AV->Hp->Prop} {b:Int} (hd:Dom idom a b):WC F8 52 [.s (jae jkw idom),vi a,vi b] h Q=Q (vb true) h :=
 jas (jbh rfl (by simp only[jay,ja2,jbc,jcl,ja3,jbd,ja9,jbn,jbe,jbi,if_true]) (qic jdx hd))
def KP (idom:List Int) (p:Nat×Int) (k:Nat) (i:Nat):Prop:=(p.1=k/\p.2<(i:Int))∨(p.1≠k/\Dom idom p.1 k)
theorem j9k {h:Hp} (ok:Ok h) {k i:Nat} (hk:KP idom (a,n) k i):WC F8 43 [.s (jae jkw idom),.agg [si a,si n],.agg [si k,si i]] h (fun v h'=>∃ d,jgm true h' d v=some (vb true)):=by
 refine jba (no8 rfl rfl rfl rfl rfl rfl rfl rfl) qia rfl ?_
 unfold j17
 obtain⟨hA,eA,okA,nA,xA,gA⟩:=jei ok [si a,si n] 97
 obtain⟨hB,eB,okB,nB,xB,gB⟩:=jei okA [si k,si i] 97
 have yA:=(gB _ (by omega)).trans xA
 rw[nA] at xB
 rcases hk with⟨h1,h2⟩ | ⟨h1,h2⟩
 .simp only at h1 h2
  have c1:((a:Int)=(k:Int))=True:=by simp;omega
  have c2:(n<(i:Int))=True:=eq_true h2
  simp(disch:=first|omega|rfl) only[go_sem,eA,nA,eB,yA,xB,c1,c2]
  exact⟨1,rfl⟩
 .simp only at h1 h2
  have c1:((a:Int)=(k:Int))=False:=by simp;omega
  simp(disch:=first|omega|rfl) only[go_sem,eA,nA,eB,yA,xB,c1]
  unfold jxa
  simp(disch:=first|omega|rfl) only[go_sem,yA,xB,qk2 h2]
  exact⟨1,rfl⟩
theorem jxi {h:Hp} {Q:AV->Hp->Prop} {k i:Nat} (hk:KP idom (a,n) k i):WC F9 43 [.s (jae jkw idom),.agg [si a,si n],.agg [si k,si i]] h Q=Q (vb true) h :=
 jas (jbh rfl (by simp only[jay,ja2,jbc,jcl,ja3,jbd,ja9,jbn,jbe,jbi,if_true]) (j9k jdx hk))
def KT (idom:List Int) (T:List (Nat×Int)) (v k i:Nat):Prop:=∃ p,T[v]?=some p/\KP idom p k i
theorem j9l {T:List (Nat×Int)} {l:List Ms.Opd} {k i:Nat} (hl:l.length<=10000) (hp:∀ o∈l,o.kind=1->KT idom T o.value k i) {Q:Ex->St->Prop} :
 ∀ (d j:Nat) (_:j+d=l.length) {hi:Hp} (_:Ok hi) {x14 x18 x20:AV}
  (hQ:∀ hj x14 x18 x20,Ok hj->hi.next<=hj.next->(∀ n,n<hi.next->hj.get n=hi.get n)->Q (.exit 4) (.mk [x0,.s (jae jkw idom),x2,x3,x4,x5,x6,x7,x8,x9,x10,x11,x12,x13,x14,vi i,vi k,.s (jae jh9 T),x18,.s (jae ja5 l),x20,vi l.length,vi l.length,x23,x24,x25,x26,x27,x28,x29,x30,x31,x32,x33] hj)),
  W F9 jki.loop (.mk [x0,.s (jae jkw idom),x2,x3,x4,x5,x6,x7,x8,x9,x10,x11,x12,x13,x14,vi i,vi k,.s (jae jh9 T),x18,.s (jae ja5 l),x20,vi l.length,vi j,x23,x24,x25,x26,x27,x28,x29,x30,x31,x32,x33] hi) Q
 | 0,j,hd,hi,ok,x14,x18,x20,hQ=>by
  obtain rfl:j=l.length:=by omega
  rw[jaj]
  unfold jki
  simp(disch:=first|omega|rfl) only[go_sem,f0u]
  exact hQ hi _ _ _ ok (f0f _) (fun _ _=>rfl)
 | d+1,j,hd,hi,ok,x14,x18,x20,hQ=>by
  have hlt:(j:Int)<(l.length:Int):=by omega
  obtain⟨o,hio⟩:∃ y,l[j]?=some y:=⟨_,f0a (by omega)⟩
  have ho:=hp o (f0c hio)
  have hix:=jag (enc:=ja5) (size:=5) hio rfl
  have hs:(j:Int)+1=((j+1:Nat):Int):=by omega
  obtain⟨hA,eA,okA,nA,xA,gA⟩:=jbv ok [.int .i64 0,.int .i64 0,.bool false,.int .i64 0,.int .i64 0] (ja5 o) 59
  unfold ja5 at xA eA
  rw[jaj]
  unfold jki jw4
  by_cases e:o.kind=1
  .have c1:((o.kind:Int)=1)=True:=by simp;omega
   obtain⟨⟨pb,pn⟩,h1,h2⟩:=ho e
   have hxs:=jag (enc:=jh9) (size:=2) h1 rfl
   simp(disch:=first|omega|rfl) only[go_sem,jac,eq_true hlt,hix,ja5,eA,xA,c1,hxs,jh9,jxi h2,hs]
   exact j9l hl hp d (j+1) (by omega) okA (fun hj x14 x18 x20 o n g=>hQ hj x14 x18 x20 o (by omega) (fun m hm=>(g m (by omega)).trans (gA m hm)))
  .have c1:((o.kind:Int)=1)=False:=by simp;omega
   simp(disch:=first|omega|rfl) only[go_sem,jac,eq_true hlt,hix,ja5,eA,xA,c1,hs]
   exact j9l hl hp d (j+1) (by omega) okA (fun hj x14 x18 x20 o n g=>hQ hj x14 x18 x20 o (by omega) (fun m hm=>(g m (by omega)).trans (gA m hm)))
theorem qer {T:List (Nat×Int)} {l:List Ms.Ins} {k:Nat} (hl:l.length<=10000) (hp:∀ (i:Nat) (x:Ms.Ins),l[i]?=some x->x.ops.length<=6/\∀ o∈x.ops,o.kind=1->KT idom T o.value k i) {Q:Ex->St->Prop} :
 ∀ (d j:Nat) (_:j+d=l.length) {hi:Hp} (_:Ok hi) {x14 x15 x18 x19 x20 x21 x22 x23 x25:AV}
  (hQ:∀ hj x14 x15 x18 x19 x20 x21 x22 x23 x25,Ok hj->hi.next<=hj.next->(∀ n,n<hi.next->hj.get n=hi.get n)->Q (.exit 2) (.mk [x0,.s (jae jkw idom),x2,x3,x4,x5,x6,x7,x8,x9,x10,x11,x12,x13,x14,x15,vi k,.s (jae jh9 T),x18,x19,x20,x21,x22,x23,.s (jae jdo l),x25,vi l.length,vi l.length,x28,x29,x30,x31,x32,x33] hj)),
  W F9 jkj.loop (.mk [x0,.s (jae jkw idom),x2,x3,x4,x5,x6,x7,x8,x9,x10,x11,x12,x13,x14,x15,vi k,.s (jae jh9 T),x18,x19,x20,x21,x22,x23,.s (jae jdo l),x25,vi l.length,vi j,x28,x29,x30,x31,x32,x33] hi) Q
 | 0,j,hd,hi,ok,x14,x15,x18,x19,x20,x21,x22,x23,x25,hQ=>by
  obtain rfl:j=l.length:=by omega
  rw[jaj]
  unfold jkj
  simp(disch:=first|omega|rfl) only[go_sem,f0u]
  exact hQ hi _ _ _ _ _ _ _ _ _ ok (f0f _) (fun _ _=>rfl)
 | d+1,j,hd,hi,ok,x14,x15,x18,x19,x20,x21,x22,x23,x25,hQ=>by
  have hlt:(j:Int)<(l.length:Int):=by omega
  obtain⟨x,hio⟩:∃ y,l[j]?=some y:=⟨_,f0a (by omega)⟩
  obtain⟨hx1,hx2⟩:=hp j x hio
  have hix:=jag (enc:=jdo) (size:=3) hio rfl
  have hs:(j:Int)+1=((j+1:Nat):Int):=by omega
  obtain⟨hA,eA,okA,nA,xA,gA⟩:=jbv ok [.int .i64 0,.nilSlice,.nilSlice] (jdo x) 57
  have l1:=jah (enc:=ja5) (l:=x.ops)
  unfold jdo at xA eA
  rw[jaj]
  unfold jkj jw5
  simp(disch:=first|omega|rfl) only[go_sem,jac,eq_true hlt,hix,jdo,eA,xA,l1]
  refine j9l (by omega) hx2 x.ops.length 0 (by omega) okA (fun hj x14 x18 x20 o n g=>?_)
  simp(disch:=first|omega|rfl) only[go_sem,jac,hs]
  exact qer hl hp d (j+1) (by omega) o (fun hk x14 x15 x18 x19 x20 x21 x22 x23 x25 o' n' g'=>hQ hk x14 x15 x18 x19 x20 x21 x22 x23 x25 o' (by omega) (fun m hm=>(g' m (by omega)).trans ((g m (by omega)).trans (gA m hm))))
theorem qes {T:List (Nat×Int)} {l:List Nat} {b:Blk} {k:Nat} (hl:l.length<=10000) (hp:∀ v∈l,KT idom T v k b.instrs.length) {Q:Ex->St->Prop} :
 ∀ (d j:Nat) (_:j+d=l.length) {hi:Hp} (_:Ok hi) (_:hi.get bB=some (.arr [jae jat b.params,jae jdo b.instrs,jae jg0 b.edges] 36)) {x3 x4 x6:AV}
  (hQ:∀ x3 x4 x6,Q (.exit 8) (.mk [x0,.s (jae jkw idom),x2,x3,x4,.s (jae jat l),x6,vi l.length,vi l.length,x9,x10,x11,x12,x13,x14,x15,vi k,.s (jae jh9 T),x18,x19,x20,x21,x22,x23,x24,x25,x26,x27,.s (.ptr bB 0),x29,x30,x31,x32,x33] hi)),
  W F9 jkk.loop (.mk [x0,.s (jae jkw idom),x2,x3,x4,.s (jae jat l),x6,vi l.length,vi j,x9,x10,x11,x12,x13,x14,x15,vi k,.s (jae jh9 T),x18,x19,x20,x21,x22,x23,x24,x25,x26,x27,.s (.ptr bB 0),x29,x30,x31,x32,x33] hi) Q
 | 0,j,hd,hi,ok,xB,x3,x4,x6,hQ=>by
  obtain rfl:j=l.length:=by omega
  rw[jaj]
  unfold jkk
  simp(disch:=first|omega|rfl) only[go_sem,f0u]
  exact hQ _ _ _
 | d+1,j,hd,hi,ok,xB,x3,x4,x6,hQ=>by
  have hlt:(j:Int)<(l.length:Int):=by omega
  obtain⟨v,hio⟩:∃ y,l[j]?=some y:=⟨_,f0a (by omega)⟩
  obtain⟨⟨pb,pn⟩,h1,h2⟩:=hp v (f0c hio)
  have hix:=jag (enc:=jat) (size:=1) hio rfl
  have hxs:=jag (enc:=jh9) (size:=2) h1 rfl
  have hs:(j:Int)+1=((j+1:Nat):Int):=by omega
  have l1:=jah (enc:=jdo) (l:=b.instrs)
  rw[jaj]
  unfold jkk jw7 jw6
  simp(disch:=first|omega|rfl) only[go_sem,jac,eq_true hlt,hix,jat,hxs,jh9,xB,l1,jxi h2,hs]
  exact qes hl hp d (j+1) (by omega) ok xB hQ
theorem qet {T:List (Nat×Int)} {l:List Ms.Edg} {b:Blk} {k:Nat} (hl:l.length<=10000) (hp:∀ e∈l,e.args.length<=10000/\∀ v∈e.args,KT idom T v k b.instrs.length) {Q:Ex->St->Prop} :
 ∀ (d j:Nat) (_:j+d=l.length) {hi:Hp} (_:Ok hi) (_:bB<hi.next) (_:hi.get bB=some (.arr [jae jat b.params,jae jdo b.instrs,jae jg0 b.edges] 36)) {x3 x4 x5 x6 x7 x8 x9 x11:AV}
  (hQ:∀ hj x3 x4 x5 x6 x7 x8 x9 x11,Ok hj->hi.next<=hj.next->(∀ n,n<hi.next->hj.get n=hi.get n)->Q (.exit 6) (.mk [x0,.s (jae jkw idom),x2,x3,x4,x5,x6,x7,x8,x9,.s (jae jg0 l),x11,vi l.length,vi l.length,x14,x15,vi k,.s (jae jh9 T),x18,x19,x20,x21,x22,x23,x24,x25,x26,x27,.s (.ptr bB 0),x29,x30,x31,x32,x33] hj)),
  W F9 jkl.loop (.mk [x0,.s (jae jkw idom),x2,x3,x4,x5,x6,x7,x8,x9,.s (jae jg0 l),x11,vi l.length,vi j,x14,x15,vi k,.s (jae jh9 T),x18,x19,x20,x21,x22,x23,x24,x25,x26,x27,.s (.ptr bB 0),x29,x30,x31,x32,x33] hi) Q
 | 0,j,hd,hi,ok,hb,xB,x3,x4,x5,x6,x7,x8,x9,x11,hQ=>by
  obtain rfl:j=l.length:=by omega
  rw[jaj]
  unfold jkl
  simp(disch:=first|omega|rfl) only[go_sem,f0u]
  exact hQ hi _ _ _ _ _ _ _ _ ok (f0f _) (fun _ _=>rfl)
 | d+1,j,hd,hi,ok,hb,xB,x3,x4,x5,x6,x7,x8,x9,x11,hQ=>by
  have hlt:(j:Int)<(l.length:Int):=by omega
  obtain⟨e,hio⟩:∃ y,l[j]?=some y:=⟨_,f0a (by omega)⟩
  obtain⟨he1,he2⟩:=hp e (f0c hio)
  have hix:=jag (enc:=jg0) (size:=2) hio rfl
  have hs:(j:Int)+1=((j+1:Nat):Int):=by omega
  obtain⟨hA,eA,okA,nA,xA,gA⟩:=jbv ok [.int .i64 0,.nilSlice] (jg0 e) 72
  have yB:=(gA _ hb).trans xB
  have l1:=jah (enc:=jat) (l:=e.args)
  unfold jg0 at xA eA
  rw[jaj]
  unfold jkl jw8
  simp(disch:=first|omega|rfl) only[go_sem,jac,eq_true hlt,hix,jg0,eA,xA,l1]
  refine qes he1 he2 e.args.length 0 (by omega) okA yB (fun x3 x4 x6=>?_)
  simp(disch:=first|omega|rfl) only[go_sem,jac,hs]
  exact qet hl hp d (j+1) (by omega) okA (by omega) yB (fun hk x3 x4 x5 x6 x7 x8 x9 x11 o' n' g'=>hQ hk x3 x4 x5 x6 x7 x8 x9 x11 o' (by omega) (fun m hm=>(g' m (by omega)).trans (gA m hm)))
structure UsOk (idom:List Int) (f:Fc):Prop where
 nb:f.blocks.length<=10000
 sz:∀ b∈f.blocks,b.instrs.length<=10000/\b.edges.length<=10000
 us:∀ (k i:Nat) (b:Blk) (x:Ms.Ins),f.blocks[k]?=some b->b.instrs[i]?=some x->x.ops.length<=6/\∀ o∈x.ops,o.kind=1->KT idom (jej f) o.value k i
 ed:∀ (k:Nat) (b:Blk) (e:Ms.Edg),f.blocks[k]?=some b->e∈b.edges->e.args.length<=10000/\∀ v∈e.args,KT idom (jej f) v k b.instrs.length
theorem qeu {f:Fc} (u:UsOk idom f) {Q:Ex->St->Prop} :
 ∀ (d j:Nat) (_:j+d=f.blocks.length) {hi:Hp} (_:Ok hi) {x3 x4 x5 x6 x7 x8 x9 x10 x11 x12 x13 x14 x15 x16 x18 x19 x20 x21 x22 x23 x24 x25 x26 x27 x28 x30:AV}
  (hQ:∀ hj x3 x4 x5 x6 x7 x8 x9 x10 x11 x12 x13 x14 x15 x16 x18 x19 x20 x21 x22 x23 x24 x25 x26 x27 x28 x30,Q (.exit 0) (.mk [x0,.s (jae jkw idom),x2,x3,x4,x5,x6,x7,x8,x9,x10,x11,x12,x13,x14,x15,x16,.s (jae jh9 (jej f)),x18,x19,x20,x21,x22,x23,x24,x25,x26,x27,x28,.s (jae ja0 f.blocks),x30,vi f.blocks.length,vi f.blocks.length,x33] hj)),
  W F9 jkm.loop (.mk [x0,.s (jae jkw idom),x2,x3,x4,x5,x6,x7,x8,x9,x10,x11,x12,x13,x14,x15,x16,.s (jae jh9 (jej f)),x18,x19,x20,x21,x22,x23,x24,x25,x26,x27,x28,.s (jae ja0 f.blocks),x30,vi f.blocks.length,vi j,x33] hi) Q
 | 0,j,hd,hi,ok,x3,x4,x5,x6,x7,x8,x9,x10,x11,x12,x13,x14,x15,x16,x18,x19,x20,x21,x22,x23,x24,x25,x26,x27,x28,x30,hQ=>by
  obtain rfl:j=f.blocks.length:=by omega
  rw[jaj]
  unfold jkm
  simp(disch:=first|omega|rfl) only[go_sem,f0u]
  exact hQ hi ..
 | d+1,j,hd,hi,ok,x3,x4,x5,x6,x7,x8,x9,x10,x11,x12,x13,x14,x15,x16,x18,x19,x20,x21,x22,x23,x24,x25,x26,x27,x28,x30,hQ=>by
  have nb:=u.nb
  have hlt:(j:Int)<(f.blocks.length:Int):=by omega
  obtain⟨b,hio⟩:∃ y,f.blocks[j]?=some y:=⟨_,f0a (by omega)⟩
  obtain⟨s1,s2⟩:=u.sz b (f0c hio)
  have hix:=jag (enc:=ja0) (size:=3) hio rfl
  have hs:(j:Int)+1=((j+1:Nat):Int):=by omega
  obtain⟨hA,eA,okA,nA,xA,gA⟩:=jbv ok [.nilSlice,.nilSlice,.nilSlice] (ja0 b) 36
  have l1:=jah (enc:=jdo) (l:=b.instrs)
  have l2:=jah (enc:=jg0) (l:=b.edges)
  unfold ja0 at xA eA
  rw[jaj]
  unfold jkm jw9
  simp(disch:=first|omega|rfl) only[go_sem,jac,eq_true hlt,hix,ja0,eA,xA,l1]
  refine qer s1 (fun i x hx=>u.us j i b x hio hx) b.instrs.length 0 (by omega) okA (fun hj x14 x15 x18 x19 x20 x21 x22 x23 x25 o n g=>?_)
  have yA:=(g _ (by omega)).trans xA
  simp(disch:=first|omega|rfl) only[go_sem,yA,l2]
  refine qet s2 (fun e he=>u.ed j b e hio he) b.edges.length 0 (by omega) o (by omega) yA (fun hk x3 x4 x5 x6 x7 x8 x9 x11 o' n' g'=>?_)
  simp(disch:=first|omega|rfl) only[go_sem,jac,hs]
  exact qeu u d (j+1) (by omega) o' hQ
theorem qk3 {h:Hp} {Q:AV->Hp->Prop} {f:Fc} (hl:f.blocks.length<=10000) (hv:f.values.length<=10000) (hne:f.values≠[]) (hp:∀ b∈f.blocks,b.params.length<=10000/\b.instrs.length<=10000/\(∀ v∈b.params,v<f.values.length)/\∀ x∈b.instrs,x.ops.length<=6/\∀ o∈x.ops,o.value<f.values.length) :
 WC F9 42 [.agg [jae jat f.values,jae ja0 f.blocks]] h Q=Q (.s (jae jh9 (jej f))) h :=
 jas ((jbf rfl).trans (jbh rfl (by simp only[jay,ja2,jbc,jcl,ja3,jbd,ja9,jbn,jbe,jbi,if_true]) (qid jdx hl hv hne hp)))
theorem qk4 {h:Hp} (ok:Ok h) {f:Fc} (u:UsOk idom f) (hv:f.values.length<=10000) (hne:f.values≠[]) (hp:∀ b∈f.blocks,b.params.length<=10000/\b.instrs.length<=10000/\(∀ v∈b.params,v<f.values.length)/\∀ x∈b.instrs,x.ops.length<=6/\∀ o∈x.ops,o.value<f.values.length) :
 WC F9 23 [.agg [jae jat f.values,jae ja0 f.blocks],.s (jae jkw idom)] h (fun v h'=>∃ d,jgm true h' d v=some (vb true)):=by
 refine jba (no9 rfl rfl rfl rfl rfl rfl rfl rfl rfl) qh9 rfl ?_
 unfold j16
 obtain⟨hA,eA,okA,nA,xA,gA⟩:=jei ok [jae jat f.values,jae ja0 f.blocks] 26
 have l2:=jah (enc:=ja0) (l:=f.blocks)
 simp(disch:=first|omega|rfl) only[go_sem,eA,xA,qk3 u.nb hv hne hp,l2]
 refine qeu u f.blocks.length 0 (by omega) okA (fun hj x3 x4 x5 x6 x7 x8 x9 x10 x11 x12 x13 x14 x15 x16 x18 x19 x20 x21 x22 x23 x24 x25 x26 x27 x28 x30=>?_)
 simp(disch:=first|omega|rfl) only[go_sem]
 exact⟨1,rfl⟩
theorem qsy:∀ (s:List Bool),s.length<=5->oG s
 | [],_=>o_
 | [false],_=>o_f
 | [true],_=>o_t
 | [false,false],_=>qu8
 | [false,true],_=>qu5
 | [true,false],_=>quz
 | [true,true],_=>qu2
 | [false,false,false],_=>qsv
 | [false,false,true],_=>qss
 | [false,true,false],_=>qsd
 | [false,true,true],_=>qsa
 | [true,false,false],_=>qsm
 | [true,false,true],_=>qsp
 | [true,true,false],_=>qsg
 | [true,true,true],_=>qsj
 | [false,false,false,false],_=>qo7
 | [false,false,false,true],_=>qoy
 | [false,false,true,false],_=>qod
 | [false,false,true,true],_=>qop
 | [false,true,false,false],_=>qoj
 | [false,true,false,true],_=>qov
 | [false,true,true,false],_=>qn4
 | [false,true,true,true],_=>qoa
 | [true,false,false,false],_=>qn7
 | [true,false,false,true],_=>qn1
 | [true,false,true,false],_=>qpa
 | [true,false,true,true],_=>qog
 | [true,true,false,false],_=>qo4
 | [true,true,false,true],_=>qom
 | [true,true,true,false],_=>qos
 | [true,true,true,true],_=>qo1
 | [false,false,false,false,false],_=>qjq
 | [false,false,false,false,true],_=>qin
 | [false,false,false,true,false],_=>qkz
 | [false,false,false,true,true],_=>qkt
 | [false,false,true,false,false],_=>qkk
 | [false,false,true,false,true],_=>qiw
 | [false,false,true,true,false],_=>qi8
 | [false,false,true,true,true],_=>qkb
 | [false,true,false,false,false],_=>qjb
 | [false,true,false,false,true],_=>qjk
 | [false,true,false,true,false],_=>qjz
 | [false,true,false,true,true],_=>qkn
 | [false,true,true,false,false],_=>qj8
 | [false,true,true,false,true],_=>qke
 | [false,true,true,true,false],_=>qkq
 | [false,true,true,true,true],_=>qiq
 | [true,false,false,false,false],_=>qjn
 | [true,false,false,false,true],_=>qik
 | [true,false,false,true,false],_=>qkw
 | [true,false,false,true,true],_=>qit
 | [true,false,true,false,false],_=>qkh
 | [true,false,true,false,true],_=>qi5
 | [true,false,true,true,false],_=>qjh
 | [true,false,true,true,true],_=>qi2
 | [true,true,false,false,false],_=>qiz
 | [true,true,false,false,true],_=>qjw
 | [true,true,false,true,false],_=>qj5
 | [true,true,false,true,true],_=>qje
 | [true,true,true,false,false],_=>qih
 | [true,true,true,false,true],_=>qjt
 | [true,true,true,true,false],_=>qj2
 | [true,true,true,true,true],_=>qie
 | _::_::_::_::_::_::_,h=>absurd h (by simp)
theorem qsz:∀ (s:List Bool),s.length<=5->nG s
 | [],_=>n_
 | [false],_=>n_f
 | [true],_=>n_t
 | [false,false],_=>qu9
 | [false,true],_=>qu6
 | [true,false],_=>qu0
 | [true,true],_=>qu3
 | [false,false,false],_=>qsw
 | [false,false,true],_=>qst
 | [false,true,false],_=>qse
 | [false,true,true],_=>qsb
 | [true,false,false],_=>qsn
 | [true,false,true],_=>qsq
 | [true,true,false],_=>qsh
 | [true,true,true],_=>qsk
 | [false,false,false,false],_=>qo8
 | [false,false,false,true],_=>qoz
 | [false,false,true,false],_=>qoe
 | [false,false,true,true],_=>qoq
 | [false,true,false,false],_=>qok
 | [false,true,false,true],_=>qow
 | [false,true,true,false],_=>qn5
 | [false,true,true,true],_=>qob
 | [true,false,false,false],_=>qn8
 | [true,false,false,true],_=>qn2
 | [true,false,true,false],_=>qpb
 | [true,false,true,true],_=>qoh
 | [true,true,false,false],_=>qo5
 | [true,true,false,true],_=>qon
 | [true,true,true,false],_=>qot
 | [true,true,true,true],_=>qo2
 | [false,false,false,false,false],_=>qjr
 | [false,false,false,false,true],_=>qio
 | [false,false,false,true,false],_=>qk0
 | [false,false,false,true,true],_=>qku
 | [false,false,true,false,false],_=>qkl
 | [false,false,true,false,true],_=>qix
 | [false,false,true,true,false],_=>qi9
 | [false,false,true,true,true],_=>qkc
 | [false,true,false,false,false],_=>qjc
 | [false,true,false,false,true],_=>qjl
 | [false,true,false,true,false],_=>qj0
 | [false,true,false,true,true],_=>qko
 | [false,true,true,false,false],_=>qj9
 | [false,true,true,false,true],_=>qkf
 | [false,true,true,true,false],_=>qkr
 | [false,true,true,true,true],_=>qir
 | [true,false,false,false,false],_=>qjo
 | [true,false,false,false,true],_=>qil
 | [true,false,false,true,false],_=>qkx
 | [true,false,false,true,true],_=>qiu
 | [true,false,true,false,false],_=>qki
 | [true,false,true,false,true],_=>qi6
 | [true,false,true,true,false],_=>qji
 | [true,false,true,true,true],_=>qi3
 | [true,true,false,false,false],_=>qi0
 | [true,true,false,false,true],_=>qjx
 | [true,true,false,true,false],_=>qj6
 | [true,true,false,true,true],_=>qjf
 | [true,true,true,false,false],_=>qii
 | [true,true,true,false,true],_=>qju
 | [true,true,true,true,false],_=>qj3
 | [true,true,true,true,true],_=>qif
 | _::_::_::_::_::_::_,h=>absurd h (by simp)
theorem qs0:∀ (s:List Bool),s.length<=5->iG s
 | [],_=>i_
 | [false],_=>i_f
 | [true],_=>i_t
 | [false,false],_=>qva
 | [false,true],_=>qu7
 | [true,false],_=>qu1
 | [true,true],_=>qu4
 | [false,false,false],_=>qsx
 | [false,false,true],_=>qsu
 | [false,true,false],_=>qsf
 | [false,true,true],_=>qsc
 | [true,false,false],_=>qso
 | [true,false,true],_=>qsr
 | [true,true,false],_=>qsi
 | [true,true,true],_=>qsl
 | [false,false,false,false],_=>qo9
 | [false,false,false,true],_=>qo0
 | [false,false,true,false],_=>qof
 | [false,false,true,true],_=>qor
 | [false,true,false,false],_=>qol
 | [false,true,false,true],_=>qox
 | [false,true,true,false],_=>qn6
 | [false,true,true,true],_=>qoc
 | [true,false,false,false],_=>qn9
 | [true,false,false,true],_=>qn3
 | [true,false,true,false],_=>qpc
 | [true,false,true,true],_=>qoi
 | [true,true,false,false],_=>qo6
 | [true,true,false,true],_=>qoo
 | [true,true,true,false],_=>qou
 | [true,true,true,true],_=>qo3
 | [false,false,false,false,false],_=>qjs
 | [false,false,false,false,true],_=>qip
 | [false,false,false,true,false],_=>qk1
 | [false,false,false,true,true],_=>qkv
 | [false,false,true,false,false],_=>qkm
 | [false,false,true,false,true],_=>qiy
 | [false,false,true,true,false],_=>qja
 | [false,false,true,true,true],_=>qkd
 | [false,true,false,false,false],_=>qjd
 | [false,true,false,false,true],_=>qjm
 | [false,true,false,true,false],_=>qj1
 | [false,true,false,true,true],_=>qkp
 | [false,true,true,false,false],_=>qka
 | [false,true,true,false,true],_=>qkg
 | [false,true,true,true,false],_=>qks
 | [false,true,true,true,true],_=>qis
 | [true,false,false,false,false],_=>qjp
 | [true,false,false,false,true],_=>qim
 | [true,false,false,true,false],_=>qky
 | [true,false,false,true,true],_=>qiv
 | [true,false,true,false,false],_=>qkj
 | [true,false,true,false,true],_=>qi7
 | [true,false,true,true,false],_=>qjj
 | [true,false,true,true,true],_=>qi4
 | [true,true,false,false,false],_=>qi1
 | [true,true,false,false,true],_=>qjy
 | [true,true,false,true,false],_=>qj7
 | [true,true,false,true,true],_=>qjg
 | [true,true,true,false,false],_=>qij
 | [true,true,true,false,true],_=>qjv
 | [true,true,true,true,false],_=>qj4
 | [true,true,true,true,true],_=>qig
 | _::_::_::_::_::_::_,h=>absurd h (by simp)
theorem jzy {α β:Type} (g:α->β):∀ (l:List α),(l.map (fun v=>(v,g v))).map (·.1)=l
 | []=>rfl
 | a::l=>congrArg (a::·) (jzy g l)
theorem qcf (b i:Nat) (ops:List Ms.Opd):(evO b i ops).map (·.1)=dfO ops:=jzy _ _
theorem j19 (b:Nat):∀ (l:List Ms.Ins) (i:Nat),(evI b i l).map (·.1)=(l.map jc2).flatten
 | [],i=>rfl
 | x::l,i=>by
  unfold evI
  rw[List.map_append,qcf,j19 b l]
  rfl
theorem jut:∀ (l:List Blk) (k:Nat),(evL k l).map (·.1)=jc8 l
 | [],k=>rfl
 | b::l,k=>by
  unfold evL evB evP
  rw[List.map_append,List.map_append,j19,jut l,jzy]
  simp[jc8,jqr]
theorem j9m {b:Nat} {y:Ms.Ins} (hv:v∈jc2 y):∀ {l:List Ms.Ins} {i j:Nat},l[i]?=some y->(v,(b,((j+i:Nat):Int)))∈evI b j l
 | [],i,j,h=>by simp at h
 | x::l,0,j,h=>by
  simp only[f1a,Option.some.injEq] at h
  subst h
  unfold evI
  exact f08 _ (f1q.2 ⟨v,hv,rfl⟩)
 | x::l,i+1,j,h=>by
  simp only[f2e] at h
  unfold evI
  have:=j9m (b:=b) hv (j:=j+1) h
  rw[show j+1+i=j+(i+1) by omega] at this
  exact f00 _ this
theorem j9n {b:Nat}:∀ {l:List Blk} {k:Nat} {i:Nat},b=k+i->jzw l v i n->(v,(b,n))∈evL k l
 | [],k,i,e,h=>by
  obtain⟨x,h1,_⟩:=h
  simp at h1
 | x::l,k,0,e,h=>by
  obtain⟨y,h1,h2⟩:=h
  simp only[f1a,Option.some.injEq] at h1
  subst h1
  rw[f1i] at e
  subst e
  unfold evL evB
  refine f08 _ ?_
  rcases h2 with⟨rfl,h2⟩ | ⟨i,y,rfl,h2,h3⟩
  .exact f08 _ (f1q.2 ⟨v,h2,rfl⟩)
  .have:=j9m (b:=b) h3 (j:=0) h2
   rw[f0y] at this
   exact f00 _ this
 | x::l,k,i+1,e,h=>by
  unfold evL
  refine f00 _ (j9n (i:=i) (by omega) ?_)
  obtain⟨y,h1,h2⟩:=h
  exact⟨y,by simpa using h1,h2⟩
theorem j9o:∀ (l:List (Nat×(Nat×Int))) (T:List (Nat×Int)),v∉l.map (·.1)->(spF T l)[v]?=T[v]?
 | [],T,_=>rfl
 | e::l,T,h=>by
  simp only[f3v,f0h,not_or] at h
  show(spF (T.set e.1 e.2) l)[v]?=_
  rw[j9o l _ h.2,f1s (fun x=>h.1 x.symm)]
theorem j9p {p:Nat×Int}:∀ (l:List (Nat×(Nat×Int))) (T:List (Nat×Int)),(l.map (·.1)).Nodup->v<T.length->(v,p)∈l->(spF T l)[v]?=some p
 | [],T,_,_,h=>by cases h
 | e::l,T,hd,hv,h=>by
  rw[f3v,f0v] at hd
  show(spF (T.set e.1 e.2) l)[v]?=_
  rcases f0h.1 h with rfl | h
  .rw [j9o l _ hd.1,List.getElem?_set_self hv]
  .exact j9p l _ hd.2 (by rw[f3u];exact hv) h
theorem qcg {f:Fc} (hm:(jc8 f.blocks).Perm (List.range f.values.length)) {b:Nat} (h:jzw f.blocks v b n):(jej f)[v]?=some (b,n):=by
 have hmem:=j9n (k:=0) (i:=b) (f0y b).symm h
 have hk:v∈jc8 f.blocks:=by rw[←jut f.blocks 0];exact f1q.2 ⟨_,hmem,rfl⟩
 have hv:v<f.values.length:=List.mem_range.1 (hm.mem_iff.1 hk)
 unfold jej
 exact j9p _ _ (by rw[jut];exact hm.nodup_iff.2 List.nodup_range) (by rw[f3c];exact hv) hmem
theorem juo.kt {f:Fc} (hm:(jc8 f.blocks).Perm (List.range f.values.length)) {k i:Nat} (h:juo idom f.blocks v k i):KT idom (jej f) v k i:=by
 obtain⟨b,n,h1,h2⟩:=h
 exact⟨(b,n),qcg hm h1,h2⟩
def gPs (l:List Blk) (k:Nat):SV:=jae jat (l.getD k jfe).params
def gIs (l:List Blk) (k:Nat):SV:=jae jdo (l.getD k jfe).instrs
def gAs (l:List Blk) (k j:Nat):SV:=jae jat ((l.getD k jfe).edges.getD j ⟨0,[]⟩).args
theorem j9q (a:Nat->SV):∀ (r p:List Ms.Edg),(∀ j,a j=jae jat ((p++r).getD j ⟨0,[]⟩).args)->qqh a p.length (r.map (·.block))=r.map jg0
 | [],p,h=>rfl
 | e::r,p,h=>by
  show[si e.block,a p.length]::qqh a (p.length+1) (r.map (·.block))=jg0 e::r.map jg0
  have h1:a p.length=jae jat e.args:=by
   rw[h,f0d,f0m (f0f _)];simp
  have h2:=j9q a r (p++[e]) (fun j=>by rw[h];simp)
  rw[f0w] at h2
  rw[h1]
  exact congrArg _ h2
theorem qk5 (a:Nat->SV) (l:List Ms.Edg) (h:∀ j,a j=jae jat (l.getD j ⟨0,[]⟩).args):qqi a (l.map (·.block))=jae jg0 l:=by
 cases l with
 | nil=>rfl
 | cons e r =>
  have:=j9q a (e::r) [] (by simpa using h)
  exact congrArg SV.lst this
theorem j2a (l:List Blk):∀ (r p:List Blk),p++r=l->j88 (gPs l) (gIs l) (gAs l) p.length (grL r)=r.map ja0
 | [],p,h=>rfl
 | b::r,p,h=>by
  have hb:l.getD p.length jfe=b:=by rw[←h,f0d,f0m (f0f _)];simp
  show[gPs l p.length,gIs l p.length,qqi (gAs l p.length) (qej b)]::j88 (gPs l) (gIs l) (gAs l) (p.length+1) (grL r)=ja0 b::r.map ja0
  have h1:qqi (gAs l p.length) (qej b)=jae jg0 b.edges:=qk5 _ _ (fun j=>by unfold gAs;rw[hb])
  have h2:=j2a l r (p++[b]) (by rw[←h];simp)
  rw[f0w] at h2
  rw[h1]
  unfold gPs gIs
  rw[hb]
  exact congrArg _ h2
theorem jzz {f:Fc} (hne:f.blocks≠[]):[jae jat f.values,jae ja0 f.blocks]=qqj (grL f.blocks) (jae jat f.values) (gPs f.blocks) (gIs f.blocks) (gAs f.blocks):=by
 have h:=j2a f.blocks f.blocks [] rfl
 unfold qqj
 rw[show j88 (gPs f.blocks) (gIs f.blocks) (gAs f.blocks) 0 (grL f.blocks)=f.blocks.map ja0 from h]
 cases e:f.blocks with
 | nil=>exact absurd e hne
 | cons b r=>rfl
section
variable {f:Fc} {s:List Bool} {h:Hp} {Q:AV->Hp->Prop}
theorem qch (hs:s.length<=5) (hg:grL f.blocks=gS s) (hne:f.blocks≠[]):jcp F8 21 [.agg [jae jat f.values,jae ja0 f.blocks]] h=some (.s (jae jat (j87 s 0)),h) :=
 jbh rfl (by simp only[jay,ja2,jbc,jcl,ja3,jbd,ja9,jbn,jbe,jbi,if_true]) (by rw[jzz hne,hg];exact jp7 (qsy s hs _ _ _ _))
theorem qk6 (hs:s.length<=5) (hg:grL f.blocks=gS s) (hne:f.blocks≠[]):jcp F8 22 [.agg [jae jat f.values,jae ja0 f.blocks]] h=some (.s (jae jqs (j4a (gS s))),h) :=
 jbh rfl (by simp only[jay,ja2,jbc,jcl,ja3,jbd,ja9,jbn,jbe,jbi,if_true]) (by rw[jzz hne,hg];exact jp7 (qsz s hs _ _ _ _))
theorem qci (hs:s.length<=5) (hg:grL f.blocks=gS s) (hne:f.blocks≠[]):jcp F8 24 [.agg [jae jat f.values,jae ja0 f.blocks],.s (jae jat (j87 s 0))] h=some (.s (jae jkw (jgy s)),h) :=
 jbh rfl (by simp only[jay,ja2,jbc,jcl,ja3,jbd,ja9,jbn,jbe,jbi,if_true]) (by rw[jzz hne,hg];exact jp7 (qs0 s hs _ _ _ _))
end
def shp:Nat->List (List Bool)
 | 0=>[[]]
 | n+1=>[]::((shp n).map (false::·)++(shp n).map (true::·))
theorem j9r:∀ (n:Nat) (s:List Bool),s.length<=n->s∈shp n
 | 0,s,h=>by
  have:=f1h (Nat.le_zero.1 h)
  subst this;exact f0i.2 rfl
 | n+1,[],h=>by unfold shp;simp
 | n+1,b::s,h=>by
  have:=j9r n s (by simpa using h)
  unfold shp
  refine f0s _ (f0e.2 ?_)
  cases b
  .exact .inl (f1q.2 ⟨s,this,rfl⟩)
  .exact .inr (f1q.2 ⟨s,this,rfl⟩)
theorem qk7 {P:List Bool->Bool} (h:(shp 5).all P=true) {s:List Bool} (hs:s.length<=5):P s=true:=f3n.1 h s (j9r 5 s hs)
def qtv (g:List (List Nat)):Bool:=g.all (fun es=>es.length<=1||es.all (fun t=>((j4a g).getD t [0,0]).length<=1))
theorem qcj:(shp 5).all (fun s=>qtv (gS s))=true:=by kernel_rfl
theorem juu:∀ (s:List Bool) (c:Nat),(j87 s c).length=1+3*s.length
 | [],c=>rfl
 | false::s,c=>by simp[j87,juu s];omega
 | true::s,c=>by simp[j87,juu s];omega
structure FlG (m:Nat×Nat) (f:Fc) (s:List Bool):Prop where
 k:FcOk m f
 on:jl5 f=0
 hs:s.length<=5
 hg:grL f.blocks=gS s
 hv:f.values≠[]
structure FlOk (m:Nat×Nat) (f:Fc) (s:List Bool):Prop extends FlG m f s where
 us:UsOk (jgy s) f
theorem FlG.hne {m:Nat×Nat} {f:Fc} {s:List Bool} (o:FlG m f s):f.blocks≠[]:=f1m.1 (by have:=o.k.nb;omega)
theorem FlOk.len {m:Nat×Nat} {f:Fc} {s:List Bool} (o:FlOk m f s):f.blocks.length=1+3*s.length:=by rw[←jdw,o.hg,j15]
theorem j9s {m:Nat×Nat} (m1:2<=m.1/\m.1<=10) (m2:2<=m.2/\m.2<=10) (l:List Pc):∃ s,FlOk m (jeh m l) s/\(jc8 (jeh m l).blocks).Perm (List.range (jeh m l).values.length) /\
 (∀ (k i:Nat) (b:Blk) (x:Ms.Ins) (o:Ms.Opd),(jeh m l).blocks[k]?=some b->b.instrs[i]?=some x->o∈x.ops->o.kind=1->juo (jgy s) (jeh m l).blocks o.value k i):=by
 obtain⟨k,kp,_⟩:=j1g m1 m2 l
 obtain⟨s,h1,h2,h3,h4⟩:=j4b m1 m2 l
 have hv:(jeh m l).values≠[]:=by
  obtain⟨b,g,c,n,_⟩:=((jkf m1 m2).pieces (l.take 24)).bd.lay ⟨0,0,1,0,0,0,3⟩
  obtain⟨_,_,_,_,_,_,_,_,cs,e1,e2,_⟩:=qha ((jkf m1 m2).pieces (l.take 24)).v ⟨0,0,1,0,0,0,3⟩
  have:(jeh m l).values=(jb7 ((l.take 24).foldl jbj (jbo m)) ⟨0,0,1,0,0,0,3⟩).values:=rfl
  rw[this,e2]
  rcases e1 with rfl | rfl<;>simp
 refine⟨s,⟨⟨k,qca kp,h1,h2,hv⟩,⟨by have:=k.nb;omega,fun b hb=>by have:=k.blk b hb;omega,fun a i b x hb hx=>⟨(k.ins b (f0c hb) x (f0c hx)).nops,fun o ho hk=>juo.kt kp (h3 a i b x o hb hx ho hk)⟩,fun a b e hb he=>⟨?_,fun v hv=>juo.kt kp (h4 a b e v hb he hv)⟩⟩⟩,kp,h3⟩
 obtain⟨_,_,t,h5,h6,_⟩:=k.edg b (f0c hb) e he
 have h7:=(k.blk t (f0c h5)).1
 have:=congrArg List.length h6
 simp only[f1c] at this
 omega
def S10 (f:FuncId):Bool:=Nat.beq f 23
def F10:Fns:=PX S10 F9
theorem qs1 {A:Nat->Int}:Env Try.prog A tys F10:=jgb qvc
theorem qtw {f:FuncId} (h1:S1 f=false) (h2:Nat.beq f jfs.f=false) (h3:S3 f=false) (h4:S4 f=false) (h5:S5 f=false) (h6:S6 f=false) (h7:S7 f=false) (h8:S8 f=false) (h9:S9 f=false) (h10:S10 f=false) {h:Hp}:jcp F10 f vs h=none:=(jbf h10).trans (no9 h1 h2 h3 h4 h5 h6 h7 h8 h9)
section
variable {h:Hp} {m:Nat×Nat} {f:Fc} {s:List Bool} {Q:AV->Hp->Prop}
theorem qpd (h9:S9 g=false) (h10:S10 g=false):jcp F10 g vs h=jcp F8 g vs h:=(jbf h10).trans (jbf h9)
theorem qck (k:FcOk m f) (on:jl5 f=0) (m1:2<=m.1/\m.1<=10) (m2:2<=m.2/\m.2<=10):WC F10 20 [.agg [jae jat f.values,jae ja0 f.blocks],.agg [si m.1,si m.2]] h Q=Q (vi 0) h :=
 jas ((qpd rfl rfl).trans ((jbf rfl).trans (by rw[qny k m1 m2,on];rfl)))
theorem j4c (o:FlG m f s):WC F10 21 [.agg [jae jat f.values,jae ja0 f.blocks]] h Q=Q (.s (jae jat (j87 s 0))) h:=jas ((qpd rfl rfl).trans (qch o.hs o.hg o.hne))
theorem j9t (o:FlG m f s):WC F10 22 [.agg [jae jat f.values,jae ja0 f.blocks]] h Q=Q (.s (jae jqs (j4a (gS s)))) h:=jas ((qpd rfl rfl).trans (qk6 o.hs o.hg o.hne))
theorem j4d (o:FlG m f s):WC F10 24 [.agg [jae jat f.values,jae ja0 f.blocks],.s (jae jat (j87 s 0))] h Q=Q (.s (jae jkw (jgy s))) h:=jas ((qpd rfl rfl).trans (qci o.hs o.hg o.hne))
theorem qcl (o:FlOk m f s):WC F10 23 [.agg [jae jat f.values,jae ja0 f.blocks],.s (jae jkw (jgy s))] h Q=Q (vb true) h :=
 jas (jbh rfl (by simp only[jay,ja2,jbc,jcl,ja3,jbd,ja9,jbn,jbe,jbi,if_true]) (qk4 jdx o.us (by have:=o.k.nv;omega) o.hv (j84 o.k)))
end
theorem FlG.pred {m:Nat×Nat} {f:Fc} {s:List Bool} (o:FlG m f s) {b:Blk} (hb:b∈f.blocks) (h:1<b.edges.length) {e:Ms.Edg} (he:e∈b.edges):∃ pl,(j4a (gS s))[e.block]?=some pl/\pl.length<=1:=by
 have h1:=qk7 qcj o.hs
 unfold qtv at h1
 rw[f3n] at h1
 have h2:=h1 (qej b) (by rw[←o.hg];exact f1q.2 ⟨b,hb,rfl⟩)
 simp only[f3r,decide_eq_true_eq,f3n] at h2
 have h3:=h2.resolve_left (by unfold qej;rw[f1c];omega) e.block (f1q.2 ⟨e,he,rfl⟩)
 rw[f0d] at h3
 cases hq:(j4a (gS s))[e.block]? with
 | none=>rw[hq] at h3;simp at h3
 | some pl=>rw[hq] at h3;exact⟨pl,rfl,h3⟩
theorem j9u {m:Nat×Nat} {f:Fc} (k:FcOk m f) {IL:List (List Nat)} (pr:∀ b∈f.blocks,1<b.edges.length->∀ e∈b.edges,∃ pl,IL[e.block]?=some pl/\pl.length<=1) {b:Blk} (hb:b∈f.blocks) {Q:Ex->St->Prop} :
 ∀ (d j:Nat) (_:j+d=b.edges.length) {hi:Hp} (_:Ok hi) (_:bB<hi.next) (_:hi.get bB=some (.arr [jae jat b.params,jae jdo b.instrs,jae jg0 b.edges] 36)) {x4 x5 x8:AV}
  (hQ:∀ hj x4 x5 x8,Ok hj->hi.next<=hj.next->(∀ n,n<hi.next->hj.get n=hi.get n)->Q (.exit 2) (.mk [x0,x1,x2,x3,x4,x5,.s (jae jqs (IL)),.s (jae jg0 b.edges),x8,vi b.edges.length,vi b.edges.length,.s (.ptr bB 0),x12,x13,x14,x15,x16,x17,x18,x19,x20] hj)),
  W F10 jkn.loop (.mk [x0,x1,x2,x3,x4,x5,.s (jae jqs (IL)),.s (jae jg0 b.edges),x8,vi b.edges.length,vi j,.s (.ptr bB 0),x12,x13,x14,x15,x16,x17,x18,x19,x20] hi) Q
 | 0,j,hd,hi,ok,hB,xB,x4,x5,x8,hQ=>by
  obtain rfl:j=b.edges.length:=by omega
  rw[jaj]
  unfold jkn
  simp(disch:=first|omega|rfl) only[go_sem,f0u]
  exact hQ hi _ _ _ ok (f0f _) (fun _ _=>rfl)
 | d+1,j,hd,hi,ok,hB,xB,x4,x5,x8,hQ=>by
  have hlt:(j:Int)<(b.edges.length:Int):=by omega
  have hne:=(k.blk b hb).2.2
  obtain⟨e,hio⟩:∃ y,b.edges[j]?=some y:=⟨_,f0a (by omega)⟩
  have hix:=jag (enc:=jg0) (size:=2) hio rfl
  have hs:(j:Int)+1=((j+1:Nat):Int):=by omega
  obtain⟨hA,eA,okA,nA,xA,gA⟩:=jbv ok [.int .i64 0,.nilSlice] (jg0 e) 72
  have yB:=(gA _ hB).trans xB
  have l2:=jah (enc:=jg0) (l:=b.edges)
  unfold jg0 at xA eA
  rw[jaj]
  unfold jkn jxc
  by_cases h1:1<b.edges.length
  .have c1:(1<(b.edges.length:Int))=True:=by simp;omega
   obtain⟨pl,h2,h3⟩:=pr b hb h1 e (f0c hio)
   have hxp:=jag (enc:=jqs) (size:=1) h2 rfl
   have l3:=jah (enc:=jat) (l:=pl)
   have c2:(1<(pl.length:Int))=False:=by simp;omega
   simp(disch:=first|omega|rfl) only[go_sem,jac,eq_true hlt,hix,jg0,eA,xA,yB,l2,c1,hxp,jqs,l3,c2,hs]
   exact j9u k pr hb d (j+1) (by omega) okA (by omega) yB (fun hj x4 x5 x8 ok' n g=>hQ hj x4 x5 x8 ok' (by omega) (fun q hq=>(g q (by omega)).trans (gA q hq)))
  .have c1:(1<(b.edges.length:Int))=False:=by simp;omega
   simp(disch:=first|omega|rfl) only[go_sem,jac,eq_true hlt,hix,jg0,eA,xA,yB,l2,c1,hs]
   exact j9u k pr hb d (j+1) (by omega) okA (by omega) yB (fun hj x4 x5 x8 ok' n g=>hQ hj x4 x5 x8 ok' (by omega) (fun q hq=>(g q (by omega)).trans (gA q hq)))
theorem qev {m:Nat×Nat} {f:Fc} (k:FcOk m f) {IL:List (List Nat)} (pr:∀ b∈f.blocks,1<b.edges.length->∀ e∈b.edges,∃ pl,IL[e.block]?=some pl/\pl.length<=1) {bF:Nat} {Q:Ex->St->Prop} :
 ∀ (d j:Nat) (_:j+d=f.blocks.length) {hi:Hp} (_:Ok hi) (_:bF<hi.next) {x4 x5 x7 x8 x9 x10 x11 x13:AV}
  (hQ:∀ hj x4 x5 x7 x8 x9 x10 x11 x13,Ok hj->hi.next<=hj.next->hj.get bF=hi.get bF->Q (.exit 0) (.mk [x0,x1,x2,x3,x4,x5,.s (jae jqs (IL)),x7,x8,x9,x10,x11,.s (jae ja0 f.blocks),x13,vi f.blocks.length,vi f.blocks.length,x16,x17,x18,x19,.s (.ptr bF 0)] hj)),
  W F10 jko.loop (.mk [x0,x1,x2,x3,x4,x5,.s (jae jqs (IL)),x7,x8,x9,x10,x11,.s (jae ja0 f.blocks),x13,vi f.blocks.length,vi j,x16,x17,x18,x19,.s (.ptr bF 0)] hi) Q
 | 0,j,hd,hi,ok,hB,x4,x5,x7,x8,x9,x10,x11,x13,hQ=>by
  obtain rfl:j=f.blocks.length:=by omega
  rw[jaj]
  unfold jko
  simp(disch:=first|omega|rfl) only[go_sem,f0u]
  exact hQ hi _ _ _ _ _ _ _ _ ok (f0f _) rfl
 | d+1,j,hd,hi,ok,hB,x4,x5,x7,x8,x9,x10,x11,x13,hQ=>by
  have nb:=k.nb
  have hlt:(j:Int)<(f.blocks.length:Int):=by omega
  obtain⟨b,hio⟩:∃ y,f.blocks[j]?=some y:=⟨_,f0a (by omega)⟩
  have hbm:=f0c hio
  have hix:=jag (enc:=ja0) (size:=3) hio rfl
  have hs:(j:Int)+1=((j+1:Nat):Int):=by omega
  obtain⟨hA,eA,okA,nA,xA,gA⟩:=jbv ok [.nilSlice,.nilSlice,.nilSlice] (ja0 b) 36
  have l2:=jah (enc:=jg0) (l:=b.edges)
  unfold ja0 at xA eA
  rw[jaj]
  unfold jko jxd
  simp(disch:=first|omega|rfl) only[go_sem,jac,eq_true hlt,hix,ja0,eA,xA,l2]
  refine j9u k pr hbm b.edges.length 0 (by omega) okA (by omega) xA (fun hj x4 x5 x8 ok' n g=>?_)
  simp(disch:=first|omega|rfl) only[go_sem,jac,hs]
  exact qev k pr d (j+1) (by omega) ok' (by omega) (fun hk x4 x5 x7 x8 x9 x10 x11 x13 o' n' g'=>hQ hk x4 x5 x7 x8 x9 x10 x11 x13 o' (by omega) (g'.trans ((g _ (by omega)).trans (gA _ hB))))
theorem qcm {h:Hp} (ok:Ok h) {m:Nat×Nat} {f:Fc} (k:FcOk m f) (on:jl5 f=0) (m1:2<=m.1/\m.1<=10) (m2:2<=m.2/\m.2<=10) {IL:List (List Nat)} {O:List Nat} {D:List Int} {r:Bool} (pr:∀ b∈f.blocks,1<b.edges.length->∀ e∈b.edges,∃ pl,IL[e.block]?=some pl/\pl.length<=1) (hl:f.blocks.length<=O.length)
 (hO:∀ h Q,WC F10 21 [.agg [jae jat f.values,jae ja0 f.blocks]] h Q=Q (.s (jae jat O)) h) (hI:∀ h Q,WC F10 22 [.agg [jae jat f.values,jae ja0 f.blocks]] h Q=Q (.s (jae jqs IL)) h)
 (hD:∀ h Q,WC F10 24 [.agg [jae jat f.values,jae ja0 f.blocks],.s (jae jat O)] h Q=Q (.s (jae jkw D)) h) (hU:∀ h Q,WC F10 23 [.agg [jae jat f.values,jae ja0 f.blocks],.s (jae jkw D)] h Q=Q (vb r) h) :
 WC F10 11 [.agg [jae jat f.values,jae ja0 f.blocks],.agg [si m.1,si m.2]] h (fun v h'=>∃ d,jgm true h' d v=some (vi (Bool.rec 10 0 r))):=by
 refine jba (qtw rfl rfl rfl rfl rfl rfl rfl rfl rfl rfl) qib rfl ?_
 unfold j18
 obtain⟨hA,eA,okA,nA,xA,gA⟩:=jei ok [jae jat f.values,jae ja0 f.blocks] 26
 obtain⟨hB,eB,okB,nB,xB,gB⟩:=jei okA [si m.1,si m.2] 30
 have yA:=(gB _ (by omega)).trans xA
 rw[nA] at xB
 have l2:=jah (enc:=ja0) (l:=f.blocks)
 have l3:=jah (enc:=jat) (l:=O)
 have c1:((O.length:Int)<(f.blocks.length:Int))=False:=eq_false (by omega)
 have hh:(hB.next<=h.next/\h.next<hB.next)=False:=eq_false (by omega)
 simp(disch:=first|omega|rfl) only[go_sem,eA,eB,nA,yA,xB,qck k on m1 m2]
 unfold jxh jxb
 simp(disch:=first|omega|rfl) only[go_sem,yA,xB,hO,l3,l2,c1,hh]
 unfold jxg
 simp(disch:=first|omega|rfl) only[go_sem,yA,hI,l2]
 refine qev k pr f.blocks.length 0 (by omega) okB (by omega) (fun hj x4 x5 x7 x8 x9 x10 x11 x13 o' n g=>?_)
 have zA:=g.trans yA
 have hh:(hj.next<=h.next/\h.next<hj.next)=False:=eq_false (by omega)
 unfold jxe
 cases r with
 | false =>
  simp(disch:=first|omega|rfl) only[go_sem,zA,hO,hD,hU,hh]
  exact⟨1,rfl⟩
 | true =>
  simp(disch:=first|omega|rfl) only[go_sem,zA,hO,hD,hU,hh]
  unfold jxf
  simp(disch:=first|omega|rfl) only[go_sem]
  exact⟨1,rfl⟩
theorem FlG.fck {h:Hp} (ok:Ok h) {m:Nat×Nat} {f:Fc} {s:List Bool} (o:FlG m f s) (m1:2<=m.1/\m.1<=10) (m2:2<=m.2/\m.2<=10) {r:Bool} (hU:∀ h Q,WC F10 23 [.agg [jae jat f.values,jae ja0 f.blocks],.s (jae jkw (jgy s))] h Q=Q (vb r) h) :
 WC F10 11 [.agg [jae jat f.values,jae ja0 f.blocks],.agg [si m.1,si m.2]] h (fun v h'=>∃ d,jgm true h' d v=some (vi (Bool.rec 10 0 r))) :=
 qcm ok o.k o.on m1 m2 (fun b hb h1 e he=>o.pred hb h1 he) (by rw[juu,←jdw,o.hg,j15];exact f0f _) (fun _ _=>j4c o) (fun _ _=>j9t o) (fun _ _=>j4d o) hU
theorem qk8 {h:Hp} (ok:Ok h) {m:Nat×Nat} {f:Fc} {s:List Bool} (o:FlOk m f s) (m1:2<=m.1/\m.1<=10) (m2:2<=m.2/\m.2<=10):WC F10 11 [.agg [jae jat f.values,jae ja0 f.blocks],.agg [si m.1,si m.2]] h (fun v h'=>∃ d,jgm true h' d v=some (vi 0)) :=
 o.toFlG.fck ok m1 m2 (r:=true) (fun _ _=>qcl o)
def S11 (f:FuncId):Bool:=Nat.beq f 11
def F11:Fns:=PX S11 F10
theorem qs2 {A:Nat->Int}:Env Try.prog A tys F11:=jgb qs1
theorem qvd {f:FuncId} (h1:S1 f=false) (h2:Nat.beq f jfs.f=false) (h3:S3 f=false) (h4:S4 f=false) (h5:S5 f=false) (h6:S6 f=false) (h7:S7 f=false) (h8:S8 f=false) (h9:S9 f=false) (h10:S10 f=false) (h11:S11 f=false) {h:Hp}:jcp F11 f vs h=none:=(jbf h11).trans (qtw h1 h2 h3 h4 h5 h6 h7 h8 h9 h10)
section
variable {h:Hp} {m:Nat×Nat} {f:Fc} {s:List Bool} {Q:AV->Hp->Prop}
theorem qk9 (o:FlOk m f s) (m1:2<=m.1/\m.1<=10) (m2:2<=m.2/\m.2<=10):jcp F11 11 [.agg [jae jat f.values,jae ja0 f.blocks],.agg [si m.1,si m.2]] h=some (vi 0,h):=jbh rfl (by simp only[jay,ja2,jbc,jcl,ja3,jbd,ja9,jbn,jbe,jbi,if_true]) (qk8 jdx o m1 m2)
end
def S12 (f:FuncId):Bool:=Nat.beq f 10
def F12:Fns:=PX S12 F11
theorem qs3 {A:Nat->Int}:Env Try.prog A tys F12:=jgb qs2
theorem qlz {f:FuncId} (h1:S1 f=false) (h2:Nat.beq f jfs.f=false) (h3:S3 f=false) (h4:S4 f=false) (h5:S5 f=false) (h6:S6 f=false) (h7:S7 f=false) (h8:S8 f=false) (h9:S9 f=false) (h10:S10 f=false) (h11:S11 f=false) (h12:S12 f=false) {h:Hp}:jcp F12 f vs h=none:=(jbf h12).trans (qvd h1 h2 h3 h4 h5 h6 h7 h8 h9 h10 h11)
section
variable {h:Hp} {m:Nat×Nat} {f:Fc} {s:List Bool} {Q:AV->Hp->Prop}
theorem qcn (h4:S4 g=false) (h5:S5 g=false) (h6:S6 g=false) (h7:S7 g=false) (h8:S8 g=false) (h9:S9 g=false) (h10:S10 g=false) (h11:S11 g=false) (h12:S12 g=false):jcp F12 g vs h=jcp F3 g vs h :=
 (jbf h12).trans ((jbf h11).trans ((qpd h9 h10).trans ((jbf h8).trans (quy h4 h5 h6 h7))))
end
end
end Go.Proofs.Ytalbjjoppndjjaa.Ev
