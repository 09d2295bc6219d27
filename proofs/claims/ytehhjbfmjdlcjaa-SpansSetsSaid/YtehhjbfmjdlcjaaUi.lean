/- Is each value made where it is used? What the code tells. -/
import Derived.Test.YtehhjbfmjdlcjaaUe
import Derived.Test.YtehhjbfmjdlcjaaGT1
import Derived.Test.YtehhjbfmjdlcjaaGT3
import Derived.Test.YtehhjbfmjdlcjaaGT5
import Derived.Test.YtehhjbfmjdlcjaaGT7
namespace Go.Proofs.Ytehhjbfmjdlcjaa.Ev
noncomputable section
open Go Go.RowKit Go.Proofs.Ytehhjbfmjdlcjaa.Ms
attribute [local go_sem] Int.reduceToNat reduceCtorEq Nat.reduceAdd Nat.reduceMul Nat.reduceEqDiff Int.reduceEq Int.reduceLT Int.reduceLE Int.reduceNeg Int.reduceAdd Int.reduceSub Int.reduceMul Int.reduceNe
attribute [local go_sem ↓] reduceIte
set_option linter.all false
set_option maxRecDepth 100000
set_option maxHeartbeats 2000000
variable {x0 x1 x2 x3 x4 x5 x6 x7 x8 x9 x10 x11 x12 x13 x14 x15 x16 x17 x18 x19 x20 x21 x22 x23 x24 x25 x26 x27 x28 x29 x30 x31 x32 x33:AV} {g:FuncId} {n:Int} {vs:List AV} {idom:List Int} {a v bB:Nat}
def S8 (f:FuncId):Bool:=Nat.beq f 59||(Nat.beq f 53||(Nat.beq f 34||(Nat.beq f 35||(Nat.beq f 37||Nat.beq f 25))))
def F8:Fns:=PX S8 F7
theorem q09 {A:Nat->Int}:Env Try.prog A tys F8:=je4 q0r
theorem no8 {f:FuncId} (h1:S1 f=false) (h2:Nat.beq f jfc.f=false) (h3:S3 f=false) (h4:S4 f=false) (h5:S5 f=false) (h6:S6 f=false) (h7:S7 f=false) (h8:S8 f=false) {h:Hp}:jb9 F8 f vs h=none:=(ja0 h8).trans (no7 h1 h2 h3 h4 h5 h6 h7)
def S9 (f:FuncId):Bool:=Nat.beq f 54
def F9:Fns:=PX S9 F8
theorem q1a {A:Nat->Int}:Env Try.prog A tys F9:=je4 q09
theorem no9 {f:FuncId} (h1:S1 f=false) (h2:Nat.beq f jfc.f=false) (h3:S3 f=false) (h4:S4 f=false) (h5:S5 f=false) (h6:S6 f=false) (h7:S7 f=false) (h8:S8 f=false) (h9:S9 f=false) {h:Hp}:jb9 F9 f vs h=none:=(ja0 h9).trans (no8 h1 h2 h3 h4 h5 h6 h7 h8)
theorem qp0 {h:Hp} {Q:AV->Hp->Prop} {b:Int} (hd:Dom idom a b):WC F8 59 [.s (jae jjd idom),vi a,vi b] h Q=Q (vb true) h :=
 jap (jba rfl (by simp only[jaq,jav,ja5,jbr,jaw,ja6,ja4,jbi,ja7,jbc,if_true]) (qme jda hd))
def KP (idom:List Int) (p:Nat×Int) (k:Nat) (i:Nat):Prop:=(p.1=k/\p.2<(i:Int))∨(p.1≠k/\Dom idom p.1 k)
theorem qbz {h:Hp} (ok:Ok h) {k i:Nat} (hk:KP idom (a,n) k i):WC F8 54 [.s (jae jjd idom),.agg [si a,si n],.agg [si k,si i]] h (fun v h'=>∃ d,jf2 true h' d v=some (vb true)):=by
 refine ja3 (no8 rfl rfl rfl rfl rfl rfl rfl rfl) qmc rfl ?_
 unfold j36
 obtain⟨hA,eA,okA,nA,xA,gA⟩:=jde ok [si a,si n] 117
 obtain⟨hB,eB,okB,nB,xB,gB⟩:=jde okA [si k,si i] 117
 have yA:=(gB _ (by omega)).trans xA
 rw[nA] at xB
 rcases hk with⟨h1,h2⟩ | ⟨h1,h2⟩
 .simp only at h1 h2
  have c1:((a:Int)=(k:Int))=True:=by simp;omega
  have c2:(n<(i:Int))=True:=eq_true h2
  simp(disch:=first|omega|rfl) only[go_sem,eA,nA,eB,yA,xB,c1,c2]
  exact⟨1,rfl⟩
 .simp only at h1 h2
  have c1:((a:Int)=(k:Int))=False:=by simp;omega
  simp(disch:=first|omega|rfl) only[go_sem,eA,nA,eB,yA,xB,c1]
  unfold jyh
  simp(disch:=first|omega|rfl) only[go_sem,yA,xB,qp0 h2]
  exact⟨1,rfl⟩
theorem jyp {h:Hp} {Q:AV->Hp->Prop} {k i:Nat} (hk:KP idom (a,n) k i):WC F9 54 [.s (jae jjd idom),.agg [si a,si n],.agg [si k,si i]] h Q=Q (vb true) h :=
 jap (jba rfl (by simp only[jaq,jav,ja5,jbr,jaw,ja6,ja4,jbi,ja7,jbc,if_true]) (qbz jda hk))
def KT (idom:List Int) (T:List (Nat×Int)) (v k i:Nat):Prop:=∃ p,T[v]?=some p/\KP idom p k i
theorem qb0 {T:List (Nat×Int)} {l:List Ms.Opd} {k i:Nat} (hl:l.length<=10000) (hp:∀ o∈l,o.kind=1->KT idom T o.value k i) {Q:Ex->St->Prop} :
 ∀ (d j:Nat) (_:j+d=l.length) {hi:Hp} (_:Ok hi) {x14 x18 x20:AV}
  (hQ:∀ hj x14 x18 x20,Ok hj->hi.next<=hj.next->(∀ n,n<hi.next->hj.get n=hi.get n)->Q (.exit 4) (.mk [x0,.s (jae jjd idom),x2,x3,x4,x5,x6,x7,x8,x9,x10,x11,x12,x13,x14,vi i,vi k,.s (jae jii T),x18,.s (jae jbd l),x20,vi l.length,vi l.length,x23,x24,x25,x26,x27,x28,x29,x30,x31,x32,x33] hj)),
  W F9 jko.loop (.mk [x0,.s (jae jjd idom),x2,x3,x4,x5,x6,x7,x8,x9,x10,x11,x12,x13,x14,vi i,vi k,.s (jae jii T),x18,.s (jae jbd l),x20,vi l.length,vi j,x23,x24,x25,x26,x27,x28,x29,x30,x31,x32,x33] hi) Q
 | 0,j,hd,hi,ok,x14,x18,x20,hQ=>by
  obtain rfl:j=l.length:=by omega
  rw[jai]
  unfold jko
  simp(disch:=first|omega|rfl) only[go_sem,f0o]
  exact hQ hi _ _ _ ok (f0f _) (fun _ _=>rfl)
 | d+1,j,hd,hi,ok,x14,x18,x20,hQ=>by
  have hlt:(j:Int)<(l.length:Int):=by omega
  obtain⟨o,hio⟩:∃ y,l[j]?=some y:=⟨_,f0a (by omega)⟩
  have ho:=hp o (f0b hio)
  have hix:=jag (enc:=jbd) (size:=5) hio rfl
  have hs:(j:Int)+1=((j+1:Nat):Int):=by omega
  obtain⟨hA,eA,okA,nA,xA,gA⟩:=jbt ok [.int .i64 0,.int .i64 0,.bool false,.int .i64 0,.int .i64 0] (jbd o) 48
  unfold jbd at xA eA
  rw[jai]
  unfold jko jyb
  by_cases e:o.kind=1
  .have c1:((o.kind:Int)=1)=True:=by simp;omega
   obtain⟨⟨pb,pn⟩,h1,h2⟩:=ho e
   have hxs:=jag (enc:=jii) (size:=2) h1 rfl
   simp(disch:=first|omega|rfl) only[go_sem,jab,eq_true hlt,hix,jbd,eA,xA,c1,hxs,jii,jyp h2,hs]
   exact qb0 hl hp d (j+1) (by omega) okA (fun hj x14 x18 x20 o n g=>hQ hj x14 x18 x20 o (by omega) (fun m hm=>(g m (by omega)).trans (gA m hm)))
  .have c1:((o.kind:Int)=1)=False:=by simp;omega
   simp(disch:=first|omega|rfl) only[go_sem,jab,eq_true hlt,hix,jbd,eA,xA,c1,hs]
   exact qb0 hl hp d (j+1) (by omega) okA (fun hj x14 x18 x20 o n g=>hQ hj x14 x18 x20 o (by omega) (fun m hm=>(g m (by omega)).trans (gA m hm)))
theorem qic {T:List (Nat×Int)} {l:List Ms.Ins} {k:Nat} (hl:l.length<=10000) (hp:∀ (i:Nat) (x:Ms.Ins),l[i]?=some x->x.ops.length<=6/\∀ o∈x.ops,o.kind=1->KT idom T o.value k i) {Q:Ex->St->Prop} :
 ∀ (d j:Nat) (_:j+d=l.length) {hi:Hp} (_:Ok hi) {x14 x15 x18 x19 x20 x21 x22 x23 x25:AV}
  (hQ:∀ hj x14 x15 x18 x19 x20 x21 x22 x23 x25,Ok hj->hi.next<=hj.next->(∀ n,n<hi.next->hj.get n=hi.get n)->Q (.exit 2) (.mk [x0,.s (jae jjd idom),x2,x3,x4,x5,x6,x7,x8,x9,x10,x11,x12,x13,x14,x15,vi k,.s (jae jii T),x18,x19,x20,x21,x22,x23,.s (jae jc6 l),x25,vi l.length,vi l.length,x28,x29,x30,x31,x32,x33] hj)),
  W F9 jkp.loop (.mk [x0,.s (jae jjd idom),x2,x3,x4,x5,x6,x7,x8,x9,x10,x11,x12,x13,x14,x15,vi k,.s (jae jii T),x18,x19,x20,x21,x22,x23,.s (jae jc6 l),x25,vi l.length,vi j,x28,x29,x30,x31,x32,x33] hi) Q
 | 0,j,hd,hi,ok,x14,x15,x18,x19,x20,x21,x22,x23,x25,hQ=>by
  obtain rfl:j=l.length:=by omega
  rw[jai]
  unfold jkp
  simp(disch:=first|omega|rfl) only[go_sem,f0o]
  exact hQ hi _ _ _ _ _ _ _ _ _ ok (f0f _) (fun _ _=>rfl)
 | d+1,j,hd,hi,ok,x14,x15,x18,x19,x20,x21,x22,x23,x25,hQ=>by
  have hlt:(j:Int)<(l.length:Int):=by omega
  obtain⟨x,hio⟩:∃ y,l[j]?=some y:=⟨_,f0a (by omega)⟩
  obtain⟨hx1,hx2⟩:=hp j x hio
  have hix:=jag (enc:=jc6) (size:=3) hio rfl
  have hs:(j:Int)+1=((j+1:Nat):Int):=by omega
  obtain⟨hA,eA,okA,nA,xA,gA⟩:=jbt ok [.int .i64 0,.nilSlice,.nilSlice] (jc6 x) 46
  have l1:=jaf (enc:=jbd) (l:=x.ops)
  unfold jc6 at xA eA
  rw[jai]
  unfold jkp jyc
  simp(disch:=first|omega|rfl) only[go_sem,jab,eq_true hlt,hix,jc6,eA,xA,l1]
  refine qb0 (by omega) hx2 x.ops.length 0 (by omega) okA (fun hj x14 x18 x20 o n g=>?_)
  simp(disch:=first|omega|rfl) only[go_sem,jab,hs]
  exact qic hl hp d (j+1) (by omega) o (fun hk x14 x15 x18 x19 x20 x21 x22 x23 x25 o' n' g'=>hQ hk x14 x15 x18 x19 x20 x21 x22 x23 x25 o' (by omega) (fun m hm=>(g' m (by omega)).trans ((g m (by omega)).trans (gA m hm))))
theorem qid {T:List (Nat×Int)} {l:List Nat} {b:Blk} {k:Nat} (hl:l.length<=10000) (hp:∀ v∈l,KT idom T v k b.instrs.length) {Q:Ex->St->Prop} :
 ∀ (d j:Nat) (_:j+d=l.length) {hi:Hp} (_:Ok hi) (_:hi.get bB=some (.arr [jae jal b.params,jae jc6 b.instrs,jae jfl b.edges] 42)) {x3 x4 x6:AV}
  (hQ:∀ x3 x4 x6,Q (.exit 8) (.mk [x0,.s (jae jjd idom),x2,x3,x4,.s (jae jal l),x6,vi l.length,vi l.length,x9,x10,x11,x12,x13,x14,x15,vi k,.s (jae jii T),x18,x19,x20,x21,x22,x23,x24,x25,x26,x27,.s (.ptr bB 0),x29,x30,x31,x32,x33] hi)),
  W F9 jkq.loop (.mk [x0,.s (jae jjd idom),x2,x3,x4,.s (jae jal l),x6,vi l.length,vi j,x9,x10,x11,x12,x13,x14,x15,vi k,.s (jae jii T),x18,x19,x20,x21,x22,x23,x24,x25,x26,x27,.s (.ptr bB 0),x29,x30,x31,x32,x33] hi) Q
 | 0,j,hd,hi,ok,xB,x3,x4,x6,hQ=>by
  obtain rfl:j=l.length:=by omega
  rw[jai]
  unfold jkq
  simp(disch:=first|omega|rfl) only[go_sem,f0o]
  exact hQ _ _ _
 | d+1,j,hd,hi,ok,xB,x3,x4,x6,hQ=>by
  have hlt:(j:Int)<(l.length:Int):=by omega
  obtain⟨v,hio⟩:∃ y,l[j]?=some y:=⟨_,f0a (by omega)⟩
  obtain⟨⟨pb,pn⟩,h1,h2⟩:=hp v (f0b hio)
  have hix:=jag (enc:=jal) (size:=1) hio rfl
  have hxs:=jag (enc:=jii) (size:=2) h1 rfl
  have hs:(j:Int)+1=((j+1:Nat):Int):=by omega
  have l1:=jaf (enc:=jc6) (l:=b.instrs)
  rw[jai]
  unfold jkq jye jyd
  simp(disch:=first|omega|rfl) only[go_sem,jab,eq_true hlt,hix,jal,hxs,jii,xB,l1,jyp h2,hs]
  exact qid hl hp d (j+1) (by omega) ok xB hQ
theorem qie {T:List (Nat×Int)} {l:List Ms.Edg} {b:Blk} {k:Nat} (hl:l.length<=10000) (hp:∀ e∈l,e.args.length<=10000/\∀ v∈e.args,KT idom T v k b.instrs.length) {Q:Ex->St->Prop} :
 ∀ (d j:Nat) (_:j+d=l.length) {hi:Hp} (_:Ok hi) (_:bB<hi.next) (_:hi.get bB=some (.arr [jae jal b.params,jae jc6 b.instrs,jae jfl b.edges] 42)) {x3 x4 x5 x6 x7 x8 x9 x11:AV}
  (hQ:∀ hj x3 x4 x5 x6 x7 x8 x9 x11,Ok hj->hi.next<=hj.next->(∀ n,n<hi.next->hj.get n=hi.get n)->Q (.exit 6) (.mk [x0,.s (jae jjd idom),x2,x3,x4,x5,x6,x7,x8,x9,.s (jae jfl l),x11,vi l.length,vi l.length,x14,x15,vi k,.s (jae jii T),x18,x19,x20,x21,x22,x23,x24,x25,x26,x27,.s (.ptr bB 0),x29,x30,x31,x32,x33] hj)),
  W F9 jkr.loop (.mk [x0,.s (jae jjd idom),x2,x3,x4,x5,x6,x7,x8,x9,.s (jae jfl l),x11,vi l.length,vi j,x14,x15,vi k,.s (jae jii T),x18,x19,x20,x21,x22,x23,x24,x25,x26,x27,.s (.ptr bB 0),x29,x30,x31,x32,x33] hi) Q
 | 0,j,hd,hi,ok,hb,xB,x3,x4,x5,x6,x7,x8,x9,x11,hQ=>by
  obtain rfl:j=l.length:=by omega
  rw[jai]
  unfold jkr
  simp(disch:=first|omega|rfl) only[go_sem,f0o]
  exact hQ hi _ _ _ _ _ _ _ _ ok (f0f _) (fun _ _=>rfl)
 | d+1,j,hd,hi,ok,hb,xB,x3,x4,x5,x6,x7,x8,x9,x11,hQ=>by
  have hlt:(j:Int)<(l.length:Int):=by omega
  obtain⟨e,hio⟩:∃ y,l[j]?=some y:=⟨_,f0a (by omega)⟩
  obtain⟨he1,he2⟩:=hp e (f0b hio)
  have hix:=jag (enc:=jfl) (size:=2) hio rfl
  have hs:(j:Int)+1=((j+1:Nat):Int):=by omega
  obtain⟨hA,eA,okA,nA,xA,gA⟩:=jbt ok [.int .i64 0,.nilSlice] (jfl e) 56
  have yB:=(gA _ hb).trans xB
  have l1:=jaf (enc:=jal) (l:=e.args)
  unfold jfl at xA eA
  rw[jai]
  unfold jkr jyf
  simp(disch:=first|omega|rfl) only[go_sem,jab,eq_true hlt,hix,jfl,eA,xA,l1]
  refine qid he1 he2 e.args.length 0 (by omega) okA yB (fun x3 x4 x6=>?_)
  simp(disch:=first|omega|rfl) only[go_sem,jab,hs]
  exact qie hl hp d (j+1) (by omega) okA (by omega) yB (fun hk x3 x4 x5 x6 x7 x8 x9 x11 o' n' g'=>hQ hk x3 x4 x5 x6 x7 x8 x9 x11 o' (by omega) (fun m hm=>(g' m (by omega)).trans (gA m hm)))
structure UsOk (idom:List Int) (f:Fc):Prop where
 nb:f.blocks.length<=10000
 sz:∀ b∈f.blocks,b.instrs.length<=10000/\b.edges.length<=10000
 us:∀ (k i:Nat) (b:Blk) (x:Ms.Ins),f.blocks[k]?=some b->b.instrs[i]?=some x->x.ops.length<=6/\∀ o∈x.ops,o.kind=1->KT idom (jel f) o.value k i
 ed:∀ (k:Nat) (b:Blk) (e:Ms.Edg),f.blocks[k]?=some b->e∈b.edges->e.args.length<=10000/\∀ v∈e.args,KT idom (jel f) v k b.instrs.length
theorem qif {f:Fc} (u:UsOk idom f) {Q:Ex->St->Prop} :
 ∀ (d j:Nat) (_:j+d=f.blocks.length) {hi:Hp} (_:Ok hi) {x3 x4 x5 x6 x7 x8 x9 x10 x11 x12 x13 x14 x15 x16 x18 x19 x20 x21 x22 x23 x24 x25 x26 x27 x28 x30:AV}
  (hQ:∀ hj x3 x4 x5 x6 x7 x8 x9 x10 x11 x12 x13 x14 x15 x16 x18 x19 x20 x21 x22 x23 x24 x25 x26 x27 x28 x30,Q (.exit 0) (.mk [x0,.s (jae jjd idom),x2,x3,x4,x5,x6,x7,x8,x9,x10,x11,x12,x13,x14,x15,x16,.s (jae jii (jel f)),x18,x19,x20,x21,x22,x23,x24,x25,x26,x27,x28,.s (jae jax f.blocks),x30,vi f.blocks.length,vi f.blocks.length,x33] hj)),
  W F9 jks.loop (.mk [x0,.s (jae jjd idom),x2,x3,x4,x5,x6,x7,x8,x9,x10,x11,x12,x13,x14,x15,x16,.s (jae jii (jel f)),x18,x19,x20,x21,x22,x23,x24,x25,x26,x27,x28,.s (jae jax f.blocks),x30,vi f.blocks.length,vi j,x33] hi) Q
 | 0,j,hd,hi,ok,x3,x4,x5,x6,x7,x8,x9,x10,x11,x12,x13,x14,x15,x16,x18,x19,x20,x21,x22,x23,x24,x25,x26,x27,x28,x30,hQ=>by
  obtain rfl:j=f.blocks.length:=by omega
  rw[jai]
  unfold jks
  simp(disch:=first|omega|rfl) only[go_sem,f0o]
  exact hQ hi ..
 | d+1,j,hd,hi,ok,x3,x4,x5,x6,x7,x8,x9,x10,x11,x12,x13,x14,x15,x16,x18,x19,x20,x21,x22,x23,x24,x25,x26,x27,x28,x30,hQ=>by
  have nb:=u.nb
  have hlt:(j:Int)<(f.blocks.length:Int):=by omega
  obtain⟨b,hio⟩:∃ y,f.blocks[j]?=some y:=⟨_,f0a (by omega)⟩
  obtain⟨s1,s2⟩:=u.sz b (f0b hio)
  have hix:=jag (enc:=jax) (size:=3) hio rfl
  have hs:(j:Int)+1=((j+1:Nat):Int):=by omega
  obtain⟨hA,eA,okA,nA,xA,gA⟩:=jbt ok [.nilSlice,.nilSlice,.nilSlice] (jax b) 42
  have l1:=jaf (enc:=jc6) (l:=b.instrs)
  have l2:=jaf (enc:=jfl) (l:=b.edges)
  unfold jax at xA eA
  rw[jai]
  unfold jks jyg
  simp(disch:=first|omega|rfl) only[go_sem,jab,eq_true hlt,hix,jax,eA,xA,l1]
  refine qic s1 (fun i x hx=>u.us j i b x hio hx) b.instrs.length 0 (by omega) okA (fun hj x14 x15 x18 x19 x20 x21 x22 x23 x25 o n g=>?_)
  have yA:=(g _ (by omega)).trans xA
  simp(disch:=first|omega|rfl) only[go_sem,yA,l2]
  refine qie s2 (fun e he=>u.ed j b e hio he) b.edges.length 0 (by omega) o (by omega) yA (fun hk x3 x4 x5 x6 x7 x8 x9 x11 o' n' g'=>?_)
  simp(disch:=first|omega|rfl) only[go_sem,jab,hs]
  exact qif u d (j+1) (by omega) o' hQ
theorem qp1 {h:Hp} {Q:AV->Hp->Prop} {f:Fc} (hl:f.blocks.length<=10000) (hv:f.values.length<=10000) (hne:f.values≠[]) (hp:∀ b∈f.blocks,b.params.length<=10000/\b.instrs.length<=10000/\(∀ v∈b.params,v<f.values.length)/\∀ x∈b.instrs,x.ops.length<=6/\∀ o∈x.ops,o.value<f.values.length) :
 WC F9 53 [.agg [jae jal f.values,jae jax f.blocks]] h Q=Q (.s (jae jii (jel f))) h :=
 jap ((ja0 rfl).trans (jba rfl (by simp only[jaq,jav,ja5,jbr,jaw,ja6,ja4,jbi,ja7,jbc,if_true]) (qmf jda hl hv hne hp)))
theorem qp2 {h:Hp} (ok:Ok h) {f:Fc} (u:UsOk idom f) (hv:f.values.length<=10000) (hne:f.values≠[]) (hp:∀ b∈f.blocks,b.params.length<=10000/\b.instrs.length<=10000/\(∀ v∈b.params,v<f.values.length)/\∀ x∈b.instrs,x.ops.length<=6/\∀ o∈x.ops,o.value<f.values.length) :
 WC F9 36 [.agg [jae jal f.values,jae jax f.blocks],.s (jae jjd idom)] h (fun v h'=>∃ d,jf2 true h' d v=some (vb true)):=by
 refine ja3 (no9 rfl rfl rfl rfl rfl rfl rfl rfl rfl) qmb rfl ?_
 unfold j35
 obtain⟨hA,eA,okA,nA,xA,gA⟩:=jde ok [jae jal f.values,jae jax f.blocks] 30
 have l2:=jaf (enc:=jax) (l:=f.blocks)
 simp(disch:=first|omega|rfl) only[go_sem,eA,xA,qp1 u.nb hv hne hp,l2]
 refine qif u f.blocks.length 0 (by omega) okA (fun hj x3 x4 x5 x6 x7 x8 x9 x10 x11 x12 x13 x14 x15 x16 x18 x19 x20 x21 x22 x23 x24 x25 x26 x27 x28 x30=>?_)
 simp(disch:=first|omega|rfl) only[go_sem]
 exact⟨1,rfl⟩
theorem qyl:∀ (s:List Bool),s.length<=5->oG s
 | [],_=>o_
 | [false],_=>o_f
 | [true],_=>o_t
 | [false,false],_=>q05
 | [false,true],_=>q01
 | [true,false],_=>q0t
 | [true,true],_=>q0x
 | [false,false,false],_=>qyh
 | [false,false,true],_=>qyd
 | [false,true,false],_=>qxt
 | [false,true,true],_=>qxp
 | [true,false,false],_=>qx5
 | [true,false,true],_=>qx9
 | [true,true,false],_=>qxx
 | [true,true,true],_=>qx1
 | [false,false,false,false],_=>qup
 | [false,false,false,true],_=>quc
 | [false,false,true,false],_=>qtk
 | [false,false,true,true],_=>qt0
 | [false,true,false,false],_=>qts
 | [false,true,false,true],_=>qt8
 | [false,true,true,false],_=>qs8
 | [false,true,true,true],_=>qtg
 | [true,false,false,false],_=>qtc
 | [true,false,false,true],_=>qs4
 | [true,false,true,false],_=>qut
 | [true,false,true,true],_=>qto
 | [true,true,false,false],_=>quk
 | [true,true,false,true],_=>qtw
 | [true,true,true,false],_=>qt4
 | [true,true,true,true],_=>qug
 | [false,false,false,false,false],_=>qn8
 | [false,false,false,false,true],_=>qms
 | [false,false,false,true,false],_=>qpw
 | [false,false,false,true,true],_=>qpo
 | [false,false,true,false,false],_=>qpc
 | [false,false,true,false,true],_=>qm4
 | [false,false,true,true,false],_=>qnk
 | [false,false,true,true,true],_=>qo0
 | [false,true,false,false,false],_=>qno
 | [false,true,false,false,true],_=>qn0
 | [false,true,false,true,false],_=>qok
 | [false,true,false,true,true],_=>qpg
 | [false,true,true,false,false],_=>qow
 | [false,true,true,false,true],_=>qo4
 | [false,true,true,true,false],_=>qpk
 | [false,true,true,true,true],_=>qmw
 | [true,false,false,false,false],_=>qn4
 | [true,false,false,false,true],_=>qmo
 | [true,false,false,true,false],_=>qps
 | [true,false,false,true,true],_=>qm0
 | [true,false,true,false,false],_=>qo8
 | [true,false,true,false,true],_=>qng
 | [true,false,true,true,false],_=>qnw
 | [true,false,true,true,true],_=>qnc
 | [true,true,false,false,false],_=>qm8
 | [true,true,false,false,true],_=>qog
 | [true,true,false,true,false],_=>qos
 | [true,true,false,true,true],_=>qns
 | [true,true,true,false,false],_=>qmk
 | [true,true,true,false,true],_=>qoc
 | [true,true,true,true,false],_=>qoo
 | [true,true,true,true,true],_=>qmg
 | _::_::_::_::_::_::_,h=>absurd h (by simp)
theorem qym:∀ (s:List Bool),s.length<=5->nG s
 | [],_=>n_
 | [false],_=>n_f
 | [true],_=>n_t
 | [false,false],_=>q06
 | [false,true],_=>q02
 | [true,false],_=>q0u
 | [true,true],_=>q0y
 | [false,false,false],_=>qyi
 | [false,false,true],_=>qye
 | [false,true,false],_=>qxu
 | [false,true,true],_=>qxq
 | [true,false,false],_=>qx6
 | [true,false,true],_=>qya
 | [true,true,false],_=>qxy
 | [true,true,true],_=>qx2
 | [false,false,false,false],_=>quq
 | [false,false,false,true],_=>qud
 | [false,false,true,false],_=>qtl
 | [false,false,true,true],_=>qt1
 | [false,true,false,false],_=>qtt
 | [false,true,false,true],_=>qt9
 | [false,true,true,false],_=>qs9
 | [false,true,true,true],_=>qth
 | [true,false,false,false],_=>qtd
 | [true,false,false,true],_=>qs5
 | [true,false,true,false],_=>quu
 | [true,false,true,true],_=>qtp
 | [true,true,false,false],_=>qul
 | [true,true,false,true],_=>qtx
 | [true,true,true,false],_=>qt5
 | [true,true,true,true],_=>quh
 | [false,false,false,false,false],_=>qn9
 | [false,false,false,false,true],_=>qmt
 | [false,false,false,true,false],_=>qpx
 | [false,false,false,true,true],_=>qpp
 | [false,false,true,false,false],_=>qpd
 | [false,false,true,false,true],_=>qm5
 | [false,false,true,true,false],_=>qnl
 | [false,false,true,true,true],_=>qo1
 | [false,true,false,false,false],_=>qnp
 | [false,true,false,false,true],_=>qn1
 | [false,true,false,true,false],_=>qol
 | [false,true,false,true,true],_=>qph
 | [false,true,true,false,false],_=>qox
 | [false,true,true,false,true],_=>qo5
 | [false,true,true,true,false],_=>qpl
 | [false,true,true,true,true],_=>qmx
 | [true,false,false,false,false],_=>qn5
 | [true,false,false,false,true],_=>qmp
 | [true,false,false,true,false],_=>qpt
 | [true,false,false,true,true],_=>qm1
 | [true,false,true,false,false],_=>qo9
 | [true,false,true,false,true],_=>qnh
 | [true,false,true,true,false],_=>qnx
 | [true,false,true,true,true],_=>qnd
 | [true,true,false,false,false],_=>qm9
 | [true,true,false,false,true],_=>qoh
 | [true,true,false,true,false],_=>qot
 | [true,true,false,true,true],_=>qnt
 | [true,true,true,false,false],_=>qml
 | [true,true,true,false,true],_=>qod
 | [true,true,true,true,false],_=>qop
 | [true,true,true,true,true],_=>qmh
 | _::_::_::_::_::_::_,h=>absurd h (by simp)
theorem qyn:∀ (s:List Bool),s.length<=5->iG s
 | [],_=>i_
 | [false],_=>i_f
 | [true],_=>i_t
 | [false,false],_=>q07
 | [false,true],_=>q03
 | [true,false],_=>q0v
 | [true,true],_=>q0z
 | [false,false,false],_=>qyj
 | [false,false,true],_=>qyf
 | [false,true,false],_=>qxv
 | [false,true,true],_=>qxr
 | [true,false,false],_=>qx7
 | [true,false,true],_=>qyb
 | [true,true,false],_=>qxz
 | [true,true,true],_=>qx3
 | [false,false,false,false],_=>qur
 | [false,false,false,true],_=>que
 | [false,false,true,false],_=>qtm
 | [false,false,true,true],_=>qt2
 | [false,true,false,false],_=>qtu
 | [false,true,false,true],_=>qua
 | [false,true,true,false],_=>qta
 | [false,true,true,true],_=>qti
 | [true,false,false,false],_=>qte
 | [true,false,false,true],_=>qs6
 | [true,false,true,false],_=>quv
 | [true,false,true,true],_=>qtq
 | [true,true,false,false],_=>qum
 | [true,true,false,true],_=>qty
 | [true,true,true,false],_=>qt6
 | [true,true,true,true],_=>qui
 | [false,false,false,false,false],_=>qoa
 | [false,false,false,false,true],_=>qmu
 | [false,false,false,true,false],_=>qpy
 | [false,false,false,true,true],_=>qpq
 | [false,false,true,false,false],_=>qpe
 | [false,false,true,false,true],_=>qm6
 | [false,false,true,true,false],_=>qnm
 | [false,false,true,true,true],_=>qo2
 | [false,true,false,false,false],_=>qnq
 | [false,true,false,false,true],_=>qn2
 | [false,true,false,true,false],_=>qom
 | [false,true,false,true,true],_=>qpi
 | [false,true,true,false,false],_=>qoy
 | [false,true,true,false,true],_=>qo6
 | [false,true,true,true,false],_=>qpm
 | [false,true,true,true,true],_=>qmy
 | [true,false,false,false,false],_=>qn6
 | [true,false,false,false,true],_=>qmq
 | [true,false,false,true,false],_=>qpu
 | [true,false,false,true,true],_=>qm2
 | [true,false,true,false,false],_=>qpa
 | [true,false,true,false,true],_=>qni
 | [true,false,true,true,false],_=>qny
 | [true,false,true,true,true],_=>qne
 | [true,true,false,false,false],_=>qna
 | [true,true,false,false,true],_=>qoi
 | [true,true,false,true,false],_=>qou
 | [true,true,false,true,true],_=>qnu
 | [true,true,true,false,false],_=>qmm
 | [true,true,true,false,true],_=>qoe
 | [true,true,true,true,false],_=>qoq
 | [true,true,true,true,true],_=>qmi
 | _::_::_::_::_::_::_,h=>absurd h (by simp)
theorem qyo:∀ (s:List Bool),s.length<=5->tG s
 | [],_=>t_
 | [false],_=>t_f
 | [true],_=>t_t
 | [false,false],_=>q08
 | [false,true],_=>q04
 | [true,false],_=>q0w
 | [true,true],_=>q00
 | [false,false,false],_=>qyk
 | [false,false,true],_=>qyg
 | [false,true,false],_=>qxw
 | [false,true,true],_=>qxs
 | [true,false,false],_=>qx8
 | [true,false,true],_=>qyc
 | [true,true,false],_=>qx0
 | [true,true,true],_=>qx4
 | [false,false,false,false],_=>qus
 | [false,false,false,true],_=>quf
 | [false,false,true,false],_=>qtn
 | [false,false,true,true],_=>qt3
 | [false,true,false,false],_=>qtv
 | [false,true,false,true],_=>qub
 | [false,true,true,false],_=>qtb
 | [false,true,true,true],_=>qtj
 | [true,false,false,false],_=>qtf
 | [true,false,false,true],_=>qs7
 | [true,false,true,false],_=>quw
 | [true,false,true,true],_=>qtr
 | [true,true,false,false],_=>qun
 | [true,true,false,true],_=>qtz
 | [true,true,true,false],_=>qt7
 | [true,true,true,true],_=>quj
 | [false,false,false,false,false],_=>qob
 | [false,false,false,false,true],_=>qmv
 | [false,false,false,true,false],_=>qpz
 | [false,false,false,true,true],_=>qpr
 | [false,false,true,false,false],_=>qpf
 | [false,false,true,false,true],_=>qm7
 | [false,false,true,true,false],_=>qnn
 | [false,false,true,true,true],_=>qo3
 | [false,true,false,false,false],_=>qnr
 | [false,true,false,false,true],_=>qn3
 | [false,true,false,true,false],_=>qon
 | [false,true,false,true,true],_=>qpj
 | [false,true,true,false,false],_=>qoz
 | [false,true,true,false,true],_=>qo7
 | [false,true,true,true,false],_=>qpn
 | [false,true,true,true,true],_=>qmz
 | [true,false,false,false,false],_=>qn7
 | [true,false,false,false,true],_=>qmr
 | [true,false,false,true,false],_=>qpv
 | [true,false,false,true,true],_=>qm3
 | [true,false,true,false,false],_=>qpb
 | [true,false,true,false,true],_=>qnj
 | [true,false,true,true,false],_=>qnz
 | [true,false,true,true,true],_=>qnf
 | [true,true,false,false,false],_=>qnb
 | [true,true,false,false,true],_=>qoj
 | [true,true,false,true,false],_=>qov
 | [true,true,false,true,true],_=>qnv
 | [true,true,true,false,false],_=>qmn
 | [true,true,true,false,true],_=>qof
 | [true,true,true,true,false],_=>qor
 | [true,true,true,true,true],_=>qmj
 | _::_::_::_::_::_::_,h=>absurd h (by simp)
theorem j08 {α β:Type} (g:α->β):∀ (l:List α),(l.map (fun v=>(v,g v))).map (·.1)=l
 | []=>rfl
 | a::l=>congrArg (a::·) (j08 g l)
theorem qfm (b i:Nat) (ops:List Ms.Opd):(evO b i ops).map (·.1)=dfO ops:=j08 _ _
theorem j38 (b:Nat):∀ (l:List Ms.Ins) (i:Nat),(evI b i l).map (·.1)=(l.map jbm).flatten
 | [],i=>rfl
 | x::l,i=>by
  unfold evI
  rw[f2l,qfm,j38 b l]
  rfl
theorem jvq:∀ (l:List Blk) (k:Nat),(evL k l).map (·.1)=jc3 l
 | [],k=>rfl
 | b::l,k=>by
  unfold evL evB evP
  rw[f2l,f2l,j38,jvq l,j08]
  simp[jc3,jck]
theorem qb1 {b:Nat} {y:Ms.Ins} (hv:v∈jbm y):∀ {l:List Ms.Ins} {i j:Nat},l[i]?=some y->(v,(b,((j+i:Nat):Int)))∈evI b j l
 | [],i,j,h=>by simp at h
 | x::l,0,j,h=>by
  simp only[f1e,Option.some.injEq] at h
  subst h
  unfold evI
  exact f06 _ (f1a.2 ⟨v,hv,rfl⟩)
 | x::l,i+1,j,h=>by
  simp only[f2i] at h
  unfold evI
  have:=qb1 (b:=b) hv (j:=j+1) h
  rw[show j+1+i=j+(i+1) by omega] at this
  exact f00 _ this
theorem qb2 {b:Nat}:∀ {l:List Blk} {k:Nat} {i:Nat},b=k+i->j06 l v i n->(v,(b,n))∈evL k l
 | [],k,i,e,h=>by
  obtain⟨x,h1,_⟩:=h
  simp at h1
 | x::l,k,0,e,h=>by
  obtain⟨y,h1,h2⟩:=h
  simp only[f1e,Option.some.injEq] at h1
  subst h1
  rw[f1n] at e
  subst e
  unfold evL evB
  refine f06 _ ?_
  rcases h2 with⟨rfl,h2⟩ | ⟨i,y,rfl,h2,h3⟩
  .exact f06 _ (f1a.2 ⟨v,h2,rfl⟩)
  .have:=qb1 (b:=b) h3 (j:=0) h2
   rw[f0z] at this
   exact f00 _ this
 | x::l,k,i+1,e,h=>by
  unfold evL
  refine f00 _ (qb2 (i:=i) (by omega) ?_)
  obtain⟨y,h1,h2⟩:=h
  exact⟨y,by simpa using h1,h2⟩
theorem qb3:∀ (l:List (Nat×(Nat×Int))) (T:List (Nat×Int)),v∉l.map (·.1)->(spF T l)[v]?=T[v]?
 | [],T,_=>rfl
 | e::l,T,h=>by
  simp only[f2u,f0e,not_or] at h
  show(spF (T.set e.1 e.2) l)[v]?=_
  rw[qb3 l _ h.2,f12 (fun x=>h.1 x.symm)]
theorem qb4 {p:Nat×Int}:∀ (l:List (Nat×(Nat×Int))) (T:List (Nat×Int)),(l.map (·.1)).Nodup->v<T.length->(v,p)∈l->(spF T l)[v]?=some p
 | [],T,_,_,h=>by cases h
 | e::l,T,hd,hv,h=>by
  rw[f2u,f0v] at hd
  show(spF (T.set e.1 e.2) l)[v]?=_
  rcases f0e.1 h with rfl | h
  .rw [qb3 l _ hd.1,List.getElem?_set_self hv]
  .exact qb4 l _ hd.2 (by rw[f1u];exact hv) h
theorem qfn {f:Fc} (hm:(jc3 f.blocks).Perm (List.range f.values.length)) {b:Nat} (h:j06 f.blocks v b n):(jel f)[v]?=some (b,n):=by
 have hmem:=qb2 (k:=0) (i:=b) (f0z b).symm h
 have hk:v∈jc3 f.blocks:=by rw[←jvq f.blocks 0];exact f1a.2 ⟨_,hmem,rfl⟩
 have hv:v<f.values.length:=f2b.1 (hm.mem_iff.1 hk)
 unfold jel
 exact qb4 _ _ (by rw[jvq];exact hm.nodup_iff.2 List.nodup_range) (by rw[f3f];exact hv) hmem
theorem jq9.kt {f:Fc} (hm:(jc3 f.blocks).Perm (List.range f.values.length)) {k i:Nat} (h:jq9 idom f.blocks v k i):KT idom (jel f) v k i:=by
 obtain⟨b,n,h1,h2⟩:=h
 exact⟨(b,n),qfn hm h1,h2⟩
def gPs (l:List Blk) (k:Nat):SV:=jae jal (l.getD k jgo).params
def gIs (l:List Blk) (k:Nat):SV:=jae jc6 (l.getD k jgo).instrs
def gAs (l:List Blk) (k j:Nat):SV:=jae jal ((l.getD k jgo).edges.getD j ⟨0,[]⟩).args
theorem qb5 (a:Nat->SV):∀ (r p:List Ms.Edg),(∀ j,a j=jae jal ((p++r).getD j ⟨0,[]⟩).args)->qvo a p.length (r.map (·.block))=r.map jfl
 | [],p,h=>rfl
 | e::r,p,h=>by
  show[si e.block,a p.length]::qvo a (p.length+1) (r.map (·.block))=jfl e::r.map jfl
  have h1:a p.length=jae jal e.args:=by
   rw[h,f0c,f0u (f0f _)];simp
  have h2:=qb5 a r (p++[e]) (fun j=>by rw[h];simp)
  rw[f02] at h2
  rw[h1]
  exact congrArg _ h2
theorem qp3 (a:Nat->SV) (l:List Ms.Edg) (h:∀ j,a j=jae jal (l.getD j ⟨0,[]⟩).args):qvp a (l.map (·.block))=jae jfl l:=by
 cases l with
 | nil=>rfl
 | cons e r =>
  have:=qb5 a (e::r) [] (by simpa using h)
  exact congrArg SV.lst this
theorem j39 (l:List Blk):∀ (r p:List Blk),p++r=l->qbl (gPs l) (gIs l) (gAs l) p.length (grL r)=r.map jax
 | [],p,h=>rfl
 | b::r,p,h=>by
  have hb:l.getD p.length jgo=b:=by rw[←h,f0c,f0u (f0f _)];simp
  show[gPs l p.length,gIs l p.length,qvp (gAs l p.length) (qh3 b)]::qbl (gPs l) (gIs l) (gAs l) (p.length+1) (grL r)=jax b::r.map jax
  have h1:qvp (gAs l p.length) (qh3 b)=jae jfl b.edges:=qp3 _ _ (fun j=>by unfold gAs;rw[hb])
  have h2:=j39 l r (p++[b]) (by rw[←h];simp)
  rw[f02] at h2
  rw[h1]
  unfold gPs gIs
  rw[hb]
  exact congrArg _ h2
theorem jvr {f:Fc} (hne:f.blocks≠[]):[jae jal f.values,jae jax f.blocks]=qvq (grL f.blocks) (jae jal f.values) (gPs f.blocks) (gIs f.blocks) (gAs f.blocks):=by
 have h:=j39 f.blocks f.blocks [] rfl
 unfold qvq
 rw[show qbl (gPs f.blocks) (gIs f.blocks) (gAs f.blocks) 0 (grL f.blocks)=f.blocks.map jax from h]
 cases e:f.blocks with
 | nil=>exact absurd e hne
 | cons b r=>rfl
section
variable {f:Fc} {s:List Bool} {h:Hp} {Q:AV->Hp->Prop}
theorem qfo (hs:s.length<=5) (hg:grL f.blocks=gS s) (hne:f.blocks≠[]):jb9 F8 34 [.agg [jae jal f.values,jae jax f.blocks]] h=some (.s (jae jal (jkk s 0)),h) :=
 jba rfl (by simp only[jaq,jav,ja5,jbr,jaw,ja6,ja4,jbi,ja7,jbc,if_true]) (by rw[jvr hne,hg];exact jkm (qyl s hs _ _ _ _))
theorem qp4 (hs:s.length<=5) (hg:grL f.blocks=gS s) (hne:f.blocks≠[]):jb9 F8 35 [.agg [jae jal f.values,jae jax f.blocks]] h=some (.s (jae jvl (jq8 (gS s))),h) :=
 jba rfl (by simp only[jaq,jav,ja5,jbr,jaw,ja6,ja4,jbi,ja7,jbc,if_true]) (by rw[jvr hne,hg];exact jkm (qym s hs _ _ _ _))
theorem qfp (hs:s.length<=5) (hg:grL f.blocks=gS s) (hne:f.blocks≠[]):jb9 F8 37 [.agg [jae jal f.values,jae jax f.blocks],.s (jae jal (jkk s 0))] h=some (.s (jae jjd (jeb s)),h) :=
 jba rfl (by simp only[jaq,jav,ja5,jbr,jaw,ja6,ja4,jbi,ja7,jbc,if_true]) (by rw[jvr hne,hg];exact jkm (qyn s hs _ _ _ _))
theorem qp5 (hs:s.length<=5) (hg:grL f.blocks=gS s) (hne:f.blocks≠[]):jb9 F8 25 [.agg [jae jal f.values,jae jax f.blocks]] h=some (.agg (j04 (jkk s 0) (jeb s) (qh2 s)),h) :=
 jba rfl (by simp only[jaq,jav,ja5,jbr,jaw,ja6,ja4,jbi,ja7,jbc,if_true]) (by rw[jvr hne,hg];exact jkm (qyo s hs _ _ _ _))
end
def shp:Nat->List (List Bool)
 | 0=>[[]]
 | n+1=>[]::((shp n).map (false::·)++(shp n).map (true::·))
theorem qb6:∀ (n:Nat) (s:List Bool),s.length<=n->s∈shp n
 | 0,s,h=>by
  have:=f1r (Nat.le_zero.1 h)
  subst this;exact f0k.2 rfl
 | n+1,[],h=>by unfold shp;simp
 | n+1,b::s,h=>by
  have:=qb6 n s (by simpa using h)
  unfold shp
  refine f07 _ (f0g.2 ?_)
  cases b
  .exact .inl (f1a.2 ⟨s,this,rfl⟩)
  .exact .inr (f1a.2 ⟨s,this,rfl⟩)
theorem qb7 {P:List Bool->Bool} (h:(shp 5).all P=true) {s:List Bool} (hs:s.length<=5):P s=true:=f24.1 h s (qb6 5 s hs)
def qzq (g:List (List Nat)):Bool:=g.all (fun es=>es.length<=1||es.all (fun t=>((jq8 g).getD t [0,0]).length<=1))
theorem qfq:(shp 5).all (fun s=>qzq (gS s))=true:=by kernel_rfl
theorem jvs:∀ (s:List Bool) (c:Nat),(jkk s c).length=1+3*s.length
 | [],c=>rfl
 | false::s,c=>by simp[jkk,jvs s];omega
 | true::s,c=>by simp[jkk,jvs s];omega
structure FlOk (m:Nat×Nat) (f:Fc) (s:List Bool):Prop where
 k:FcOk m f
 on:jqc f=0
 hs:s.length<=5
 hg:grL f.blocks=gS s
 hv:f.values≠[]
 us:UsOk (jeb s) f
theorem FlOk.hne {m:Nat×Nat} {f:Fc} {s:List Bool} (o:FlOk m f s):f.blocks≠[]:=f1g.1 (by have:=o.k.nb;omega)
theorem FlOk.len {m:Nat×Nat} {f:Fc} {s:List Bool} (o:FlOk m f s):f.blocks.length=1+3*s.length:=by rw[←jec,o.hg,qbn]
theorem qp6 {m:Nat×Nat} (m1:2<=m.1/\m.1<=10) (m2:2<=m.2/\m.2<=10) (l:List Pc):∃ s,FlOk m (jfk m l) s/\(jc3 (jfk m l).blocks).Perm (List.range (jfk m l).values.length) /\
 (∀ (k i:Nat) (b:Blk) (x:Ms.Ins) (o:Ms.Opd),(jfk m l).blocks[k]?=some b->b.instrs[i]?=some x->o∈x.ops->o.kind=1->jq9 (jeb s) (jfk m l).blocks o.value k i):=by
 obtain⟨k,kp,_⟩:=j20 m1 m2 l
 obtain⟨s,h1,h2,h3,h4⟩:=j50 m1 m2 l
 have hv:(jfk m l).values≠[]:=by
  obtain⟨b,g,c,n,_⟩:=((jki m1 m2).pieces (l.take 24)).bd.lay ⟨0,0,1,0,0,0,3⟩
  obtain⟨_,_,_,_,_,_,_,_,cs,e1,e2,_⟩:=qk3 ((jki m1 m2).pieces (l.take 24)).v ⟨0,0,1,0,0,0,3⟩
  have:(jfk m l).values=(jcn ((l.take 24).foldl jbv (jbq m)) ⟨0,0,1,0,0,0,3⟩).values:=rfl
  rw[this,e2]
  rcases e1 with rfl | rfl<;>simp
 refine⟨s,⟨k,qe6 kp,h1,h2,hv,⟨by have:=k.nb;omega,fun b hb=>by have:=k.blk b hb;omega,fun a i b x hb hx=>⟨(k.ins b (f0b hb) x (f0b hx)).nops,fun o ho hk=>jq9.kt kp (h3 a i b x o hb hx ho hk)⟩,fun a b e hb he=>⟨?_,fun v hv=>jq9.kt kp (h4 a b e v hb he hv)⟩⟩⟩,kp,h3⟩
 obtain⟨_,_,t,h5,h6,_⟩:=k.edg b (f0b hb) e he
 have h7:=(k.blk t (f0b h5)).1
 have:=congrArg List.length h6
 simp only[f05] at this
 omega
def S10 (f:FuncId):Bool:=Nat.beq f 36
def F10:Fns:=PX S10 F9
theorem qyp {A:Nat->Int}:Env Try.prog A tys F10:=je4 q1a
theorem qzr {f:FuncId} (h1:S1 f=false) (h2:Nat.beq f jfc.f=false) (h3:S3 f=false) (h4:S4 f=false) (h5:S5 f=false) (h6:S6 f=false) (h7:S7 f=false) (h8:S8 f=false) (h9:S9 f=false) (h10:S10 f=false) {h:Hp}:jb9 F10 f vs h=none:=(ja0 h10).trans (no9 h1 h2 h3 h4 h5 h6 h7 h8 h9)
section
variable {h:Hp} {m:Nat×Nat} {f:Fc} {s:List Bool} {Q:AV->Hp->Prop}
theorem qqp (h9:S9 g=false) (h10:S10 g=false):jb9 F10 g vs h=jb9 F8 g vs h:=(ja0 h10).trans (ja0 h9)
theorem qfr (o:FlOk m f s) (m1:2<=m.1/\m.1<=10) (m2:2<=m.2/\m.2<=10):WC F10 33 [.agg [jae jal f.values,jae jax f.blocks],.agg [si m.1,si m.2]] h Q=Q (vi 0) h :=
 jap ((qqp rfl rfl).trans ((ja0 rfl).trans (by rw[qsp o.k m1 m2,o.on];rfl)))
theorem jsi (o:FlOk m f s):WC F10 34 [.agg [jae jal f.values,jae jax f.blocks]] h Q=Q (.s (jae jal (jkk s 0))) h:=jap ((qqp rfl rfl).trans (qfo o.hs o.hg o.hne))
theorem qb8 (o:FlOk m f s):WC F10 35 [.agg [jae jal f.values,jae jax f.blocks]] h Q=Q (.s (jae jvl (jq8 (gS s)))) h:=jap ((qqp rfl rfl).trans (qp4 o.hs o.hg o.hne))
theorem j51 (o:FlOk m f s):WC F10 37 [.agg [jae jal f.values,jae jax f.blocks],.s (jae jal (jkk s 0))] h Q=Q (.s (jae jjd (jeb s))) h:=jap ((qqp rfl rfl).trans (qfp o.hs o.hg o.hne))
theorem qfs (o:FlOk m f s):WC F10 36 [.agg [jae jal f.values,jae jax f.blocks],.s (jae jjd (jeb s))] h Q=Q (vb true) h :=
 jap (jba rfl (by simp only[jaq,jav,ja5,jbr,jaw,ja6,ja4,jbi,ja7,jbc,if_true]) (qp2 jda o.us (by have:=o.k.nv;omega) o.hv (qak o.k)))
end
theorem FlOk.pred {m:Nat×Nat} {f:Fc} {s:List Bool} (o:FlOk m f s) {b:Blk} (hb:b∈f.blocks) (h:1<b.edges.length) {e:Ms.Edg} (he:e∈b.edges):∃ pl,(jq8 (gS s))[e.block]?=some pl/\pl.length<=1:=by
 have h1:=qb7 qfq o.hs
 unfold qzq at h1
 rw[f24] at h1
 have h2:=h1 (qh3 b) (by rw[←o.hg];exact f1a.2 ⟨b,hb,rfl⟩)
 simp only[f1z,decide_eq_true_eq,f24] at h2
 have h3:=h2.resolve_left (by unfold qh3;rw[f05];omega) e.block (f1a.2 ⟨e,he,rfl⟩)
 rw[f0c] at h3
 cases hq:(jq8 (gS s))[e.block]? with
 | none=>rw[hq] at h3;simp at h3
 | some pl=>rw[hq] at h3;exact⟨pl,rfl,h3⟩
theorem qb9 {m:Nat×Nat} {f:Fc} {s:List Bool} (o:FlOk m f s) {b:Blk} (hb:b∈f.blocks) {Q:Ex->St->Prop} :
 ∀ (d j:Nat) (_:j+d=b.edges.length) {hi:Hp} (_:Ok hi) (_:bB<hi.next) (_:hi.get bB=some (.arr [jae jal b.params,jae jc6 b.instrs,jae jfl b.edges] 42)) {x4 x5 x8:AV}
  (hQ:∀ hj x4 x5 x8,Ok hj->hi.next<=hj.next->(∀ n,n<hi.next->hj.get n=hi.get n)->Q (.exit 2) (.mk [x0,x1,x2,x3,x4,x5,.s (jae jvl (jq8 (gS s))),.s (jae jfl b.edges),x8,vi b.edges.length,vi b.edges.length,.s (.ptr bB 0),x12,x13,x14,x15,x16,x17,x18,x19,x20] hj)),
  W F10 jkt.loop (.mk [x0,x1,x2,x3,x4,x5,.s (jae jvl (jq8 (gS s))),.s (jae jfl b.edges),x8,vi b.edges.length,vi j,.s (.ptr bB 0),x12,x13,x14,x15,x16,x17,x18,x19,x20] hi) Q
 | 0,j,hd,hi,ok,hB,xB,x4,x5,x8,hQ=>by
  obtain rfl:j=b.edges.length:=by omega
  rw[jai]
  unfold jkt
  simp(disch:=first|omega|rfl) only[go_sem,f0o]
  exact hQ hi _ _ _ ok (f0f _) (fun _ _=>rfl)
 | d+1,j,hd,hi,ok,hB,xB,x4,x5,x8,hQ=>by
  have hlt:(j:Int)<(b.edges.length:Int):=by omega
  have hne:=(o.k.blk b hb).2.2
  obtain⟨e,hio⟩:∃ y,b.edges[j]?=some y:=⟨_,f0a (by omega)⟩
  have hix:=jag (enc:=jfl) (size:=2) hio rfl
  have hs:(j:Int)+1=((j+1:Nat):Int):=by omega
  obtain⟨hA,eA,okA,nA,xA,gA⟩:=jbt ok [.int .i64 0,.nilSlice] (jfl e) 56
  have yB:=(gA _ hB).trans xB
  have l2:=jaf (enc:=jfl) (l:=b.edges)
  unfold jfl at xA eA
  rw[jai]
  unfold jkt jyj
  by_cases h1:1<b.edges.length
  .have c1:(1<(b.edges.length:Int))=True:=by simp;omega
   obtain⟨pl,h2,h3⟩:=o.pred hb h1 (f0b hio)
   have hxp:=jag (enc:=jvl) (size:=1) h2 rfl
   have l3:=jaf (enc:=jal) (l:=pl)
   have c2:(1<(pl.length:Int))=False:=by simp;omega
   simp(disch:=first|omega|rfl) only[go_sem,jab,eq_true hlt,hix,jfl,eA,xA,yB,l2,c1,hxp,jvl,l3,c2,hs]
   exact qb9 o hb d (j+1) (by omega) okA (by omega) yB (fun hj x4 x5 x8 ok' n g=>hQ hj x4 x5 x8 ok' (by omega) (fun q hq=>(g q (by omega)).trans (gA q hq)))
  .have c1:(1<(b.edges.length:Int))=False:=by simp;omega
   simp(disch:=first|omega|rfl) only[go_sem,jab,eq_true hlt,hix,jfl,eA,xA,yB,l2,c1,hs]
   exact qb9 o hb d (j+1) (by omega) okA (by omega) yB (fun hj x4 x5 x8 ok' n g=>hQ hj x4 x5 x8 ok' (by omega) (fun q hq=>(g q (by omega)).trans (gA q hq)))
theorem qig {m:Nat×Nat} {f:Fc} {s:List Bool} (o:FlOk m f s) {bF:Nat} {Q:Ex->St->Prop} :
 ∀ (d j:Nat) (_:j+d=f.blocks.length) {hi:Hp} (_:Ok hi) (_:bF<hi.next) {x4 x5 x7 x8 x9 x10 x11 x13:AV}
  (hQ:∀ hj x4 x5 x7 x8 x9 x10 x11 x13,Ok hj->hi.next<=hj.next->hj.get bF=hi.get bF->Q (.exit 0) (.mk [x0,x1,x2,x3,x4,x5,.s (jae jvl (jq8 (gS s))),x7,x8,x9,x10,x11,.s (jae jax f.blocks),x13,vi f.blocks.length,vi f.blocks.length,x16,x17,x18,x19,.s (.ptr bF 0)] hj)),
  W F10 jku.loop (.mk [x0,x1,x2,x3,x4,x5,.s (jae jvl (jq8 (gS s))),x7,x8,x9,x10,x11,.s (jae jax f.blocks),x13,vi f.blocks.length,vi j,x16,x17,x18,x19,.s (.ptr bF 0)] hi) Q
 | 0,j,hd,hi,ok,hB,x4,x5,x7,x8,x9,x10,x11,x13,hQ=>by
  obtain rfl:j=f.blocks.length:=by omega
  rw[jai]
  unfold jku
  simp(disch:=first|omega|rfl) only[go_sem,f0o]
  exact hQ hi _ _ _ _ _ _ _ _ ok (f0f _) rfl
 | d+1,j,hd,hi,ok,hB,x4,x5,x7,x8,x9,x10,x11,x13,hQ=>by
  have nb:=o.k.nb
  have hlt:(j:Int)<(f.blocks.length:Int):=by omega
  obtain⟨b,hio⟩:∃ y,f.blocks[j]?=some y:=⟨_,f0a (by omega)⟩
  have hbm:=f0b hio
  have hix:=jag (enc:=jax) (size:=3) hio rfl
  have hs:(j:Int)+1=((j+1:Nat):Int):=by omega
  obtain⟨hA,eA,okA,nA,xA,gA⟩:=jbt ok [.nilSlice,.nilSlice,.nilSlice] (jax b) 42
  have l2:=jaf (enc:=jfl) (l:=b.edges)
  unfold jax at xA eA
  rw[jai]
  unfold jku jyk
  simp(disch:=first|omega|rfl) only[go_sem,jab,eq_true hlt,hix,jax,eA,xA,l2]
  refine qb9 o hbm b.edges.length 0 (by omega) okA (by omega) xA (fun hj x4 x5 x8 ok' n g=>?_)
  simp(disch:=first|omega|rfl) only[go_sem,jab,hs]
  exact qig o d (j+1) (by omega) ok' (by omega) (fun hk x4 x5 x7 x8 x9 x10 x11 x13 o' n' g'=>hQ hk x4 x5 x7 x8 x9 x10 x11 x13 o' (by omega) (g'.trans ((g _ (by omega)).trans (gA _ hB))))
theorem qp7 {h:Hp} (ok:Ok h) {m:Nat×Nat} {f:Fc} {s:List Bool} (o:FlOk m f s) (m1:2<=m.1/\m.1<=10) (m2:2<=m.2/\m.2<=10):WC F10 24 [.agg [jae jal f.values,jae jax f.blocks],.agg [si m.1,si m.2]] h (fun v h'=>∃ d,jf2 true h' d v=some (vi 0)):=by
 refine ja3 (qzr rfl rfl rfl rfl rfl rfl rfl rfl rfl rfl) qmd rfl ?_
 unfold j37
 obtain⟨hA,eA,okA,nA,xA,gA⟩:=jde ok [jae jal f.values,jae jax f.blocks] 30
 obtain⟨hB,eB,okB,nB,xB,gB⟩:=jde okA [si m.1,si m.2] 25
 have yA:=(gB _ (by omega)).trans xA
 rw[nA] at xB
 have l2:=jaf (enc:=jax) (l:=f.blocks)
 have l3:=jaf (enc:=jal) (l:=jkk s 0)
 have c1:(((jkk s 0).length:Int)<(f.blocks.length:Int))=False:=eq_false (by rw[jvs,o.len];omega)
 have hh:(hB.next<=h.next/\h.next<hB.next)=False:=eq_false (by omega)
 simp(disch:=first|omega|rfl) only[go_sem,eA,eB,nA,yA,xB,qfr o m1 m2]
 unfold jyo jyi
 simp(disch:=first|omega|rfl) only[go_sem,yA,xB,jsi o,l3,l2,c1,hh]
 unfold jyn
 simp(disch:=first|omega|rfl) only[go_sem,yA,qb8 o,l2]
 refine qig o f.blocks.length 0 (by omega) okB (by omega) (fun hj x4 x5 x7 x8 x9 x10 x11 x13 o' n g=>?_)
 have zA:=g.trans yA
 have hh:(hj.next<=h.next/\h.next<hj.next)=False:=eq_false (by omega)
 unfold jyl
 simp(disch:=first|omega|rfl) only[go_sem,zA,jsi o,j51 o,qfs o,hh]
 unfold jym
 simp(disch:=first|omega|rfl) only[go_sem]
 exact⟨1,rfl⟩
def S11 (f:FuncId):Bool:=Nat.beq f 24
def F11:Fns:=PX S11 F10
theorem qyq {A:Nat->Int}:Env Try.prog A tys F11:=je4 qyp
theorem qzs {f:FuncId} (h1:S1 f=false) (h2:Nat.beq f jfc.f=false) (h3:S3 f=false) (h4:S4 f=false) (h5:S5 f=false) (h6:S6 f=false) (h7:S7 f=false) (h8:S8 f=false) (h9:S9 f=false) (h10:S10 f=false) (h11:S11 f=false) {h:Hp}:jb9 F11 f vs h=none:=(ja0 h11).trans (qzr h1 h2 h3 h4 h5 h6 h7 h8 h9 h10)
section
variable {h:Hp} {m:Nat×Nat} {f:Fc} {s:List Bool} {Q:AV->Hp->Prop}
theorem qp8 (o:FlOk m f s) (m1:2<=m.1/\m.1<=10) (m2:2<=m.2/\m.2<=10):jb9 F11 24 [.agg [jae jal f.values,jae jax f.blocks],.agg [si m.1,si m.2]] h=some (vi 0,h):=jba rfl (by simp only[jaq,jav,ja5,jbr,jaw,ja6,ja4,jbi,ja7,jbc,if_true]) (qp7 jda o m1 m2)
theorem qca (o:FlOk m f s):WC F11 25 [.agg [jae jal f.values,jae jax f.blocks]] h Q=Q (.agg (j04 (jkk s 0) (jeb s) (qh2 s))) h :=
 jap ((ja0 rfl).trans ((qqp rfl rfl).trans (qp5 o.hs o.hg o.hne)))
theorem qft (o:FlOk m f s) (m1:2<=m.1/\m.1<=10) (m2:2<=m.2/\m.2<=10):WC F11 24 [.agg [jae jal f.values,jae jax f.blocks],.agg [si m.1,si m.2]] h Q=Q (vi 0) h:=jap (qp8 o m1 m2)
end
def j52 (s:List Bool):AV:=.tup [(true,j04 (jkk s 0) (jeb s) (qh2 s)),(false,[si 0])]
theorem jkv {α:Type} {h:Hp} {d:Nat} {enc:α->List SV} {l:List α}:jg3 true h (d+1) (jae enc l)=some (jae enc l):=by cases l<;>rfl
theorem qfu {h:Hp} {s:List Bool}:jf2 true h 2 (.tup [(true,[jae jal (jkk s 0),jae jjd (jeb s),jae jal (qh2 s)]),(false,[.int .i64 0])])=some (j52 s):=by
 show ob (ob (jg5 (jg3 true h 2) [jae jal (jkk s 0),jae jjd (jeb s),jae jal (qh2 s)]) (fun x=>ob (qc8 (jg3 true h 2) [(false,[.int .i64 0])]) (fun r=>some ((true,x)::r)))) (fun y=>some (AV.tup y))=_
 rw[jb8 jkv (jb8 jkv (jh7 jkv))]
 rfl
theorem qcb {h:Hp} (ok:Ok h) {m:Nat×Nat} {f:Fc} {s:List Bool} (o:FlOk m f s) (m1:2<=m.1/\m.1<=10) (m2:2<=m.2/\m.2<=10):WC F11 12 [.agg [jae jal f.values,jae jax f.blocks],.agg [si m.1,si m.2]] h (fun v h'=>∃ d,jf2 true h' d v=some (j52 s)):=by
 refine ja3 (qzs rfl rfl rfl rfl rfl rfl rfl rfl rfl rfl rfl) qxo rfl ?_
 unfold qh8
 obtain⟨hA,eA,okA,nA,xA,gA⟩:=jde ok [jae jal f.values,jae jax f.blocks] 30
 obtain⟨hB,eB,okB,nB,xB,gB⟩:=jde okA [si m.1,si m.2] 25
 obtain⟨hC,eC,okC,nC,xC,gC⟩:=jde okB [.nilSlice,.nilSlice,.nilSlice] 36
 have yA:=(gC _ (by omega)).trans ((gB _ (by omega)).trans xA)
 have yB:=(gC _ (by omega)).trans xB
 have nb:hB.next=h.next+2:=by omega
 rw[nA] at yB
 rw[nb] at xC
 simp(disch:=first|omega|rfl) only[go_sem,eA,eB,eC,nA,nb,yA,yB,qft o m1 m2]
 unfold qbv
 simp(disch:=first|omega|rfl) only[go_sem,yA,qca o,j04,xC]
 exact⟨2,qfu⟩
def S12 (f:FuncId):Bool:=Nat.beq f 12
def F12:Fns:=PX S12 F11
theorem qyr {A:Nat->Int}:Env Try.prog A tys F12:=je4 qyq
theorem q1b {f:FuncId} (h1:S1 f=false) (h2:Nat.beq f jfc.f=false) (h3:S3 f=false) (h4:S4 f=false) (h5:S5 f=false) (h6:S6 f=false) (h7:S7 f=false) (h8:S8 f=false) (h9:S9 f=false) (h10:S10 f=false) (h11:S11 f=false) (h12:S12 f=false) {h:Hp}:jb9 F12 f vs h=none:=(ja0 h12).trans (qzs h1 h2 h3 h4 h5 h6 h7 h8 h9 h10 h11)
section
variable {h:Hp} {m:Nat×Nat} {f:Fc} {s:List Bool} {Q:AV->Hp->Prop}
theorem qfv (h4:S4 g=false) (h5:S5 g=false) (h6:S6 g=false) (h7:S7 g=false) (h8:S8 g=false) (h9:S9 g=false) (h10:S10 g=false) (h11:S11 g=false) (h12:S12 g=false):jb9 F12 g vs h=jb9 F3 g vs h :=
 (ja0 h12).trans ((ja0 h11).trans ((qqp h9 h10).trans ((ja0 h8).trans (q0s h4 h5 h6 h7))))
end
end
end Go.Proofs.Ytehhjbfmjdlcjaa.Ev
