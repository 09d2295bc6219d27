/- Is each value made where it is used? What the code tells. -/
import Derived.Test.YtehhjbfmjdlcjaaUe
import Derived.Test.YtehhjbfmjdlcjaaGT1
import Derived.Test.YtehhjbfmjdlcjaaGT3
import Derived.Test.YtehhjbfmjdlcjaaGT5
import Derived.Test.YtehhjbfmjdlcjaaGT7
namespace Go.Proofs.Ytehhjbfmjdlcjaa.Ev
noncomputable section
open Go Go.RowKit Go.Proofs.Ytehhjbfmjdlcjaa.Ms
attribute [local go_sem] Int.reduceToNat Nat.reduceAdd Nat.reduceMul Nat.reduceEqDiff Int.reduceEq Int.reduceLT Int.reduceLE Int.reduceNeg Int.reduceAdd Int.reduceSub Int.reduceMul Int.reduceNe
attribute [local go_sem ↓] reduceIte
set_option linter.all false
set_option maxRecDepth 100000
set_option maxHeartbeats 2000000
variable {x0 x1 x2 x3 x4 x5 x6 x7 x8 x9 x10 x11 x12 x13 x14 x15 x16 x17 x18 x19 x20 x21 x22 x23 x24 x25 x26 x27 x28 x29 x30 x31 x32 x33:AV} {g:FuncId} {n:Int} {vs:List AV} {idom:List Int} {a v bB:Nat}
def S8 (f:FuncId):Bool:=Nat.beq f 59||(Nat.beq f 53||(Nat.beq f 34||(Nat.beq f 35||(Nat.beq f 37||Nat.beq f 25))))
def F8:Fns:=PX S8 F7
theorem q0j {A:Nat->Int}:Env Try.prog A tys F8:=jfw qz1
theorem no8 {f:FuncId} (h1:S1 f=false) (h2:Nat.beq f jfa.f=false) (h3:S3 f=false) (h4:S4 f=false) (h5:S5 f=false) (h6:S6 f=false) (h7:S7 f=false) (h8:S8 f=false) {h:Hp}:jcj F8 f vs h=none:=(jbb h8).trans (no7 h1 h2 h3 h4 h5 h6 h7)
def S9 (f:FuncId):Bool:=Nat.beq f 54
def F9:Fns:=PX S9 F8
theorem q0k {A:Nat->Int}:Env Try.prog A tys F9:=jfw q0j
theorem no9 {f:FuncId} (h1:S1 f=false) (h2:Nat.beq f jfa.f=false) (h3:S3 f=false) (h4:S4 f=false) (h5:S5 f=false) (h6:S6 f=false) (h7:S7 f=false) (h8:S8 f=false) (h9:S9 f=false) {h:Hp}:jcj F9 f vs h=none:=(jbb h9).trans (no8 h1 h2 h3 h4 h5 h6 h7 h8)
theorem qpa {h:Hp} {Q:AV->Hp->Prop} {b:Int} (hd:Dom idom a b):WC F8 59 [.s (jae jke idom),vi a,vi b] h Q=Q (vb true) h :=
 jaq (jbf rfl (by simp only[jat,ja0,ja7,jb0,ja1,ja8,ja5,jbj,ja9,jbg,if_true]) (qlo jdo hd))
def KP (idom:List Int) (p:Nat×Int) (k:Nat) (i:Nat):Prop:=(p.1=k/\p.2<(i:Int))∨(p.1≠k/\Dom idom p.1 k)
theorem qbk {h:Hp} (ok:Ok h) {k i:Nat} (hk:KP idom (a,n) k i):WC F8 54 [.s (jae jke idom),.agg [si a,si n],.agg [si k,si i]] h (fun v h'=>∃ d,jgd true h' d v=some (vb true)):=by
 refine ja2 (no8 rfl rfl rfl rfl rfl rfl rfl rfl) qlm rfl ?_
 unfold j3z
 obtain⟨hA,eA,okA,nA,xA,gA⟩:=jdy ok [si a,si n] 117
 obtain⟨hB,eB,okB,nB,xB,gB⟩:=jdy okA [si k,si i] 117
 have yA:=(gB _ (by omega)).trans xA
 rw[nA] at xB
 rcases hk with⟨h1,h2⟩ | ⟨h1,h2⟩
 .simp only at h1 h2
  have c1:((a:Int)=(k:Int))=True:=by simp;omega
  have c2:(n<(i:Int))=True:=eq_true h2
  simp(disch:=first|omega|rfl) only[go_sem,eA,nA,eB,yA,xB,c1,c2]
  exact⟨1,rfl⟩
 .simp only at h1 h2
  have c1:((a:Int)=(k:Int))=False:=by simp;omega
  simp(disch:=first|omega|rfl) only[go_sem,eA,nA,eB,yA,xB,c1]
  unfold jyb
  simp(disch:=first|omega|rfl) only[go_sem,yA,xB,qpa h2]
  exact⟨1,rfl⟩
theorem jyj {h:Hp} {Q:AV->Hp->Prop} {k i:Nat} (hk:KP idom (a,n) k i):WC F9 54 [.s (jae jke idom),.agg [si a,si n],.agg [si k,si i]] h Q=Q (vb true) h :=
 jaq (jbf rfl (by simp only[jat,ja0,ja7,jb0,ja1,ja8,ja5,jbj,ja9,jbg,if_true]) (qbk jdo hk))
def KT (idom:List Int) (T:List (Nat×Int)) (v k i:Nat):Prop:=∃ p,T[v]?=some p/\KP idom p k i
theorem qbl {T:List (Nat×Int)} {l:List Ms.Opd} {k i:Nat} (hl:l.length<=10000) (hp:∀ o∈l,o.kind=1->KT idom T o.value k i) {Q:Ex->St->Prop} :
 ∀ (d j:Nat) (_:j+d=l.length) {hi:Hp} (_:Ok hi) {x14 x18 x20:AV}
  (hQ:∀ hj x14 x18 x20,Ok hj->hi.next<=hj.next->(∀ n,n<hi.next->hj.get n=hi.get n)->Q (.exit 4) (.mk [x0,.s (jae jke idom),x2,x3,x4,x5,x6,x7,x8,x9,x10,x11,x12,x13,x14,vi i,vi k,.s (jae jih T),x18,.s (jae ja6 l),x20,vi l.length,vi l.length,x23,x24,x25,x26,x27,x28,x29,x30,x31,x32,x33] hj)),
  W F9 jkh.loop (.mk [x0,.s (jae jke idom),x2,x3,x4,x5,x6,x7,x8,x9,x10,x11,x12,x13,x14,vi i,vi k,.s (jae jih T),x18,.s (jae ja6 l),x20,vi l.length,vi j,x23,x24,x25,x26,x27,x28,x29,x30,x31,x32,x33] hi) Q
 | 0,j,hd,hi,ok,x14,x18,x20,hQ=>by
  obtain rfl:j=l.length:=by omega
  rw[jah]
  unfold jkh
  simp(disch:=first|omega|rfl) only[go_sem,f0n]
  exact hQ hi _ _ _ ok (f0f _) (fun _ _=>rfl)
 | d+1,j,hd,hi,ok,x14,x18,x20,hQ=>by
  have hlt:(j:Int)<(l.length:Int):=by omega
  obtain⟨o,hio⟩:∃ y,l[j]?=some y:=⟨_,f0a (by omega)⟩
  have ho:=hp o (f0b hio)
  have hix:=jag (enc:=ja6) (size:=5) hio rfl
  have hs:(j:Int)+1=((j+1:Nat):Int):=by omega
  obtain⟨hA,eA,okA,nA,xA,gA⟩:=jbn ok [.int .i64 0,.int .i64 0,.bool false,.int .i64 0,.int .i64 0] (ja6 o) 48
  unfold ja6 at xA eA
  rw[jah]
  unfold jkh jx5
  by_cases e:o.kind=1
  .have c1:((o.kind:Int)=1)=True:=by simp;omega
   obtain⟨⟨pb,pn⟩,h1,h2⟩:=ho e
   have hxs:=jag (enc:=jih) (size:=2) h1 rfl
   simp(disch:=first|omega|rfl) only[go_sem,jab,eq_true hlt,hix,ja6,eA,xA,c1,hxs,jih,jyj h2,hs]
   exact qbl hl hp d (j+1) (by omega) okA (fun hj x14 x18 x20 o n g=>hQ hj x14 x18 x20 o (by omega) (fun m hm=>(g m (by omega)).trans (gA m hm)))
  .have c1:((o.kind:Int)=1)=False:=by simp;omega
   simp(disch:=first|omega|rfl) only[go_sem,jab,eq_true hlt,hix,ja6,eA,xA,c1,hs]
   exact qbl hl hp d (j+1) (by omega) okA (fun hj x14 x18 x20 o n g=>hQ hj x14 x18 x20 o (by omega) (fun m hm=>(g m (by omega)).trans (gA m hm)))
theorem qhn {T:List (Nat×Int)} {l:List Ms.Ins} {k:Nat} (hl:l.length<=10000) (hp:∀ (i:Nat) (x:Ms.Ins),l[i]?=some x->x.ops.length<=6/\∀ o∈x.ops,o.kind=1->KT idom T o.value k i) {Q:Ex->St->Prop} :
 ∀ (d j:Nat) (_:j+d=l.length) {hi:Hp} (_:Ok hi) {x14 x15 x18 x19 x20 x21 x22 x23 x25:AV}
  (hQ:∀ hj x14 x15 x18 x19 x20 x21 x22 x23 x25,Ok hj->hi.next<=hj.next->(∀ n,n<hi.next->hj.get n=hi.get n)->Q (.exit 2) (.mk [x0,.s (jae jke idom),x2,x3,x4,x5,x6,x7,x8,x9,x10,x11,x12,x13,x14,x15,vi k,.s (jae jih T),x18,x19,x20,x21,x22,x23,.s (jae jco l),x25,vi l.length,vi l.length,x28,x29,x30,x31,x32,x33] hj)),
  W F9 jki.loop (.mk [x0,.s (jae jke idom),x2,x3,x4,x5,x6,x7,x8,x9,x10,x11,x12,x13,x14,x15,vi k,.s (jae jih T),x18,x19,x20,x21,x22,x23,.s (jae jco l),x25,vi l.length,vi j,x28,x29,x30,x31,x32,x33] hi) Q
 | 0,j,hd,hi,ok,x14,x15,x18,x19,x20,x21,x22,x23,x25,hQ=>by
  obtain rfl:j=l.length:=by omega
  rw[jah]
  unfold jki
  simp(disch:=first|omega|rfl) only[go_sem,f0n]
  exact hQ hi _ _ _ _ _ _ _ _ _ ok (f0f _) (fun _ _=>rfl)
 | d+1,j,hd,hi,ok,x14,x15,x18,x19,x20,x21,x22,x23,x25,hQ=>by
  have hlt:(j:Int)<(l.length:Int):=by omega
  obtain⟨x,hio⟩:∃ y,l[j]?=some y:=⟨_,f0a (by omega)⟩
  obtain⟨hx1,hx2⟩:=hp j x hio
  have hix:=jag (enc:=jco) (size:=3) hio rfl
  have hs:(j:Int)+1=((j+1:Nat):Int):=by omega
  obtain⟨hA,eA,okA,nA,xA,gA⟩:=jbn ok [.int .i64 0,.nilSlice,.nilSlice] (jco x) 46
  have l1:=jaf (enc:=ja6) (l:=x.ops)
  unfold jco at xA eA
  rw[jah]
  unfold jki jx6
  simp(disch:=first|omega|rfl) only[go_sem,jab,eq_true hlt,hix,jco,eA,xA,l1]
  refine qbl (by omega) hx2 x.ops.length 0 (by omega) okA (fun hj x14 x18 x20 o n g=>?_)
  simp(disch:=first|omega|rfl) only[go_sem,jab,hs]
  exact qhn hl hp d (j+1) (by omega) o (fun hk x14 x15 x18 x19 x20 x21 x22 x23 x25 o' n' g'=>hQ hk x14 x15 x18 x19 x20 x21 x22 x23 x25 o' (by omega) (fun m hm=>(g' m (by omega)).trans ((g m (by omega)).trans (gA m hm))))
theorem qho {T:List (Nat×Int)} {l:List Nat} {b:Blk} {k:Nat} (hl:l.length<=10000) (hp:∀ v∈l,KT idom T v k b.instrs.length) {Q:Ex->St->Prop} :
 ∀ (d j:Nat) (_:j+d=l.length) {hi:Hp} (_:Ok hi) (_:hi.get bB=some (.arr [jae jal b.params,jae jco b.instrs,jae jfj b.edges] 42)) {x3 x4 x6:AV}
  (hQ:∀ x3 x4 x6,Q (.exit 8) (.mk [x0,.s (jae jke idom),x2,x3,x4,.s (jae jal l),x6,vi l.length,vi l.length,x9,x10,x11,x12,x13,x14,x15,vi k,.s (jae jih T),x18,x19,x20,x21,x22,x23,x24,x25,x26,x27,.s (.ptr bB 0),x29,x30,x31,x32,x33] hi)),
  W F9 jkj.loop (.mk [x0,.s (jae jke idom),x2,x3,x4,.s (jae jal l),x6,vi l.length,vi j,x9,x10,x11,x12,x13,x14,x15,vi k,.s (jae jih T),x18,x19,x20,x21,x22,x23,x24,x25,x26,x27,.s (.ptr bB 0),x29,x30,x31,x32,x33] hi) Q
 | 0,j,hd,hi,ok,xB,x3,x4,x6,hQ=>by
  obtain rfl:j=l.length:=by omega
  rw[jah]
  unfold jkj
  simp(disch:=first|omega|rfl) only[go_sem,f0n]
  exact hQ _ _ _
 | d+1,j,hd,hi,ok,xB,x3,x4,x6,hQ=>by
  have hlt:(j:Int)<(l.length:Int):=by omega
  obtain⟨v,hio⟩:∃ y,l[j]?=some y:=⟨_,f0a (by omega)⟩
  obtain⟨⟨pb,pn⟩,h1,h2⟩:=hp v (f0b hio)
  have hix:=jag (enc:=jal) (size:=1) hio rfl
  have hxs:=jag (enc:=jih) (size:=2) h1 rfl
  have hs:(j:Int)+1=((j+1:Nat):Int):=by omega
  have l1:=jaf (enc:=jco) (l:=b.instrs)
  rw[jah]
  unfold jkj jx8 jx7
  simp(disch:=first|omega|rfl) only[go_sem,jab,eq_true hlt,hix,jal,hxs,jih,xB,l1,jyj h2,hs]
  exact qho hl hp d (j+1) (by omega) ok xB hQ
theorem qhp {T:List (Nat×Int)} {l:List Ms.Edg} {b:Blk} {k:Nat} (hl:l.length<=10000) (hp:∀ e∈l,e.args.length<=10000/\∀ v∈e.args,KT idom T v k b.instrs.length) {Q:Ex->St->Prop} :
 ∀ (d j:Nat) (_:j+d=l.length) {hi:Hp} (_:Ok hi) (_:bB<hi.next) (_:hi.get bB=some (.arr [jae jal b.params,jae jco b.instrs,jae jfj b.edges] 42)) {x3 x4 x5 x6 x7 x8 x9 x11:AV}
  (hQ:∀ hj x3 x4 x5 x6 x7 x8 x9 x11,Ok hj->hi.next<=hj.next->(∀ n,n<hi.next->hj.get n=hi.get n)->Q (.exit 6) (.mk [x0,.s (jae jke idom),x2,x3,x4,x5,x6,x7,x8,x9,.s (jae jfj l),x11,vi l.length,vi l.length,x14,x15,vi k,.s (jae jih T),x18,x19,x20,x21,x22,x23,x24,x25,x26,x27,.s (.ptr bB 0),x29,x30,x31,x32,x33] hj)),
  W F9 jkk.loop (.mk [x0,.s (jae jke idom),x2,x3,x4,x5,x6,x7,x8,x9,.s (jae jfj l),x11,vi l.length,vi j,x14,x15,vi k,.s (jae jih T),x18,x19,x20,x21,x22,x23,x24,x25,x26,x27,.s (.ptr bB 0),x29,x30,x31,x32,x33] hi) Q
 | 0,j,hd,hi,ok,hb,xB,x3,x4,x5,x6,x7,x8,x9,x11,hQ=>by
  obtain rfl:j=l.length:=by omega
  rw[jah]
  unfold jkk
  simp(disch:=first|omega|rfl) only[go_sem,f0n]
  exact hQ hi _ _ _ _ _ _ _ _ ok (f0f _) (fun _ _=>rfl)
 | d+1,j,hd,hi,ok,hb,xB,x3,x4,x5,x6,x7,x8,x9,x11,hQ=>by
  have hlt:(j:Int)<(l.length:Int):=by omega
  obtain⟨e,hio⟩:∃ y,l[j]?=some y:=⟨_,f0a (by omega)⟩
  obtain⟨he1,he2⟩:=hp e (f0b hio)
  have hix:=jag (enc:=jfj) (size:=2) hio rfl
  have hs:(j:Int)+1=((j+1:Nat):Int):=by omega
  obtain⟨hA,eA,okA,nA,xA,gA⟩:=jbn ok [.int .i64 0,.nilSlice] (jfj e) 56
  have yB:=(gA _ hb).trans xB
  have l1:=jaf (enc:=jal) (l:=e.args)
  unfold jfj at xA eA
  rw[jah]
  unfold jkk jx9
  simp(disch:=first|omega|rfl) only[go_sem,jab,eq_true hlt,hix,jfj,eA,xA,l1]
  refine qho he1 he2 e.args.length 0 (by omega) okA yB (fun x3 x4 x6=>?_)
  simp(disch:=first|omega|rfl) only[go_sem,jab,hs]
  exact qhp hl hp d (j+1) (by omega) okA (by omega) yB (fun hk x3 x4 x5 x6 x7 x8 x9 x11 o' n' g'=>hQ hk x3 x4 x5 x6 x7 x8 x9 x11 o' (by omega) (fun m hm=>(g' m (by omega)).trans (gA m hm)))
structure UsOk (idom:List Int) (f:Fc):Prop where
 nb:f.blocks.length<=10000
 sz:∀ b∈f.blocks,b.instrs.length<=10000/\b.edges.length<=10000
 us:∀ (k i:Nat) (b:Blk) (x:Ms.Ins),f.blocks[k]?=some b->b.instrs[i]?=some x->x.ops.length<=6/\∀ o∈x.ops,o.kind=1->KT idom (jej f) o.value k i
 ed:∀ (k:Nat) (b:Blk) (e:Ms.Edg),f.blocks[k]?=some b->e∈b.edges->e.args.length<=10000/\∀ v∈e.args,KT idom (jej f) v k b.instrs.length
theorem qhq {f:Fc} (u:UsOk idom f) {Q:Ex->St->Prop} :
 ∀ (d j:Nat) (_:j+d=f.blocks.length) {hi:Hp} (_:Ok hi) {x3 x4 x5 x6 x7 x8 x9 x10 x11 x12 x13 x14 x15 x16 x18 x19 x20 x21 x22 x23 x24 x25 x26 x27 x28 x30:AV}
  (hQ:∀ hj x3 x4 x5 x6 x7 x8 x9 x10 x11 x12 x13 x14 x15 x16 x18 x19 x20 x21 x22 x23 x24 x25 x26 x27 x28 x30,Q (.exit 0) (.mk [x0,.s (jae jke idom),x2,x3,x4,x5,x6,x7,x8,x9,x10,x11,x12,x13,x14,x15,x16,.s (jae jih (jej f)),x18,x19,x20,x21,x22,x23,x24,x25,x26,x27,x28,.s (jae jaw f.blocks),x30,vi f.blocks.length,vi f.blocks.length,x33] hj)),
  W F9 jkl.loop (.mk [x0,.s (jae jke idom),x2,x3,x4,x5,x6,x7,x8,x9,x10,x11,x12,x13,x14,x15,x16,.s (jae jih (jej f)),x18,x19,x20,x21,x22,x23,x24,x25,x26,x27,x28,.s (jae jaw f.blocks),x30,vi f.blocks.length,vi j,x33] hi) Q
 | 0,j,hd,hi,ok,x3,x4,x5,x6,x7,x8,x9,x10,x11,x12,x13,x14,x15,x16,x18,x19,x20,x21,x22,x23,x24,x25,x26,x27,x28,x30,hQ=>by
  obtain rfl:j=f.blocks.length:=by omega
  rw[jah]
  unfold jkl
  simp(disch:=first|omega|rfl) only[go_sem,f0n]
  exact hQ hi ..
 | d+1,j,hd,hi,ok,x3,x4,x5,x6,x7,x8,x9,x10,x11,x12,x13,x14,x15,x16,x18,x19,x20,x21,x22,x23,x24,x25,x26,x27,x28,x30,hQ=>by
  have nb:=u.nb
  have hlt:(j:Int)<(f.blocks.length:Int):=by omega
  obtain⟨b,hio⟩:∃ y,f.blocks[j]?=some y:=⟨_,f0a (by omega)⟩
  obtain⟨s1,s2⟩:=u.sz b (f0b hio)
  have hix:=jag (enc:=jaw) (size:=3) hio rfl
  have hs:(j:Int)+1=((j+1:Nat):Int):=by omega
  obtain⟨hA,eA,okA,nA,xA,gA⟩:=jbn ok [.nilSlice,.nilSlice,.nilSlice] (jaw b) 42
  have l1:=jaf (enc:=jco) (l:=b.instrs)
  have l2:=jaf (enc:=jfj) (l:=b.edges)
  unfold jaw at xA eA
  rw[jah]
  unfold jkl jya
  simp(disch:=first|omega|rfl) only[go_sem,jab,eq_true hlt,hix,jaw,eA,xA,l1]
  refine qhn s1 (fun i x hx=>u.us j i b x hio hx) b.instrs.length 0 (by omega) okA (fun hj x14 x15 x18 x19 x20 x21 x22 x23 x25 o n g=>?_)
  have yA:=(g _ (by omega)).trans xA
  simp(disch:=first|omega|rfl) only[go_sem,yA,l2]
  refine qhp s2 (fun e he=>u.ed j b e hio he) b.edges.length 0 (by omega) o (by omega) yA (fun hk x3 x4 x5 x6 x7 x8 x9 x11 o' n' g'=>?_)
  simp(disch:=first|omega|rfl) only[go_sem,jab,hs]
  exact qhq u d (j+1) (by omega) o' hQ
theorem qpb {h:Hp} {Q:AV->Hp->Prop} {f:Fc} (hl:f.blocks.length<=10000) (hv:f.values.length<=10000) (hne:f.values≠[]) (hp:∀ b∈f.blocks,b.params.length<=10000/\b.instrs.length<=10000/\(∀ v∈b.params,v<f.values.length)/\∀ x∈b.instrs,x.ops.length<=6/\∀ o∈x.ops,o.value<f.values.length) :
 WC F9 53 [.agg [jae jal f.values,jae jaw f.blocks]] h Q=Q (.s (jae jih (jej f))) h :=
 jaq ((jbb rfl).trans (jbf rfl (by simp only[jat,ja0,ja7,jb0,ja1,ja8,ja5,jbj,ja9,jbg,if_true]) (qlp jdo hl hv hne hp)))
theorem qpc {h:Hp} (ok:Ok h) {f:Fc} (u:UsOk idom f) (hv:f.values.length<=10000) (hne:f.values≠[]) (hp:∀ b∈f.blocks,b.params.length<=10000/\b.instrs.length<=10000/\(∀ v∈b.params,v<f.values.length)/\∀ x∈b.instrs,x.ops.length<=6/\∀ o∈x.ops,o.value<f.values.length) :
 WC F9 36 [.agg [jae jal f.values,jae jaw f.blocks],.s (jae jke idom)] h (fun v h'=>∃ d,jgd true h' d v=some (vb true)):=by
 refine ja2 (no9 rfl rfl rfl rfl rfl rfl rfl rfl rfl) qll rfl ?_
 unfold j3y
 obtain⟨hA,eA,okA,nA,xA,gA⟩:=jdy ok [jae jal f.values,jae jaw f.blocks] 30
 have l2:=jaf (enc:=jaw) (l:=f.blocks)
 simp(disch:=first|omega|rfl) only[go_sem,eA,xA,qpb u.nb hv hne hp,l2]
 refine qhq u f.blocks.length 0 (by omega) okA (fun hj x3 x4 x5 x6 x7 x8 x9 x10 x11 x12 x13 x14 x15 x16 x18 x19 x20 x21 x22 x23 x24 x25 x26 x27 x28 x30=>?_)
 simp(disch:=first|omega|rfl) only[go_sem]
 exact⟨1,rfl⟩
theorem qxx:∀ (s:List Bool),s.length<=5->oG s
 | [],_=>o_
 | [false],_=>o_f
 | [true],_=>o_t
 | [false,false],_=>q0f
 | [false,true],_=>q0b
 | [true,false],_=>qz3
 | [true,true],_=>qz7
 | [false,false,false],_=>qxt
 | [false,false,true],_=>qxp
 | [false,true,false],_=>qw5
 | [false,true,true],_=>qw1
 | [true,false,false],_=>qxh
 | [true,false,true],_=>qxl
 | [true,true,false],_=>qw9
 | [true,true,true],_=>qxd
 | [false,false,false,false],_=>qtz
 | [false,false,false,true],_=>qtn
 | [false,false,true,false],_=>qsv
 | [false,false,true,true],_=>qtb
 | [false,true,false,false],_=>qs3
 | [false,true,false,true],_=>qtj
 | [false,true,true,false],_=>qsj
 | [false,true,true,true],_=>qsr
 | [true,false,false,false],_=>qsn
 | [true,false,false,true],_=>qsf
 | [true,false,true,false],_=>qt3
 | [true,false,true,true],_=>qsz
 | [true,true,false,false],_=>qtv
 | [true,true,false,true],_=>qs7
 | [true,true,true,false],_=>qtf
 | [true,true,true,true],_=>qtr
 | [false,false,false,false,false],_=>qni
 | [false,false,false,false,true],_=>ql2
 | [false,false,false,true,false],_=>qo6
 | [false,false,false,true,true],_=>qoy
 | [false,false,true,false,false],_=>qom
 | [false,false,true,false,true],_=>qme
 | [false,false,true,true,false],_=>qmu
 | [false,false,true,true,true],_=>qoa
 | [false,true,false,false,false],_=>qmy
 | [false,true,false,false,true],_=>qna
 | [false,true,false,true,false],_=>qnu
 | [false,true,false,true,true],_=>qoq
 | [false,true,true,false,false],_=>qn6
 | [false,true,true,false,true],_=>qoe
 | [false,true,true,true,false],_=>qou
 | [false,true,true,true,true],_=>ql6
 | [true,false,false,false,false],_=>qne
 | [true,false,false,false,true],_=>qly
 | [true,false,false,true,false],_=>qo2
 | [true,false,false,true,true],_=>qma
 | [true,false,true,false,false],_=>qoi
 | [true,false,true,false,true],_=>qmq
 | [true,false,true,true,false],_=>qm6
 | [true,false,true,true,true],_=>qmm
 | [true,true,false,false,false],_=>qmi
 | [true,true,false,false,true],_=>qnq
 | [true,true,false,true,false],_=>qn2
 | [true,true,false,true,true],_=>qm2
 | [true,true,true,false,false],_=>qlu
 | [true,true,true,false,true],_=>qnm
 | [true,true,true,true,false],_=>qny
 | [true,true,true,true,true],_=>qlq
 | _::_::_::_::_::_::_,h=>absurd h (by simp)
theorem qxy:∀ (s:List Bool),s.length<=5->nG s
 | [],_=>n_
 | [false],_=>n_f
 | [true],_=>n_t
 | [false,false],_=>q0g
 | [false,true],_=>q0c
 | [true,false],_=>qz4
 | [true,true],_=>qz8
 | [false,false,false],_=>qxu
 | [false,false,true],_=>qxq
 | [false,true,false],_=>qw6
 | [false,true,true],_=>qw2
 | [true,false,false],_=>qxi
 | [true,false,true],_=>qxm
 | [true,true,false],_=>qxa
 | [true,true,true],_=>qxe
 | [false,false,false,false],_=>qt0
 | [false,false,false,true],_=>qto
 | [false,false,true,false],_=>qsw
 | [false,false,true,true],_=>qtc
 | [false,true,false,false],_=>qs4
 | [false,true,false,true],_=>qtk
 | [false,true,true,false],_=>qsk
 | [false,true,true,true],_=>qss
 | [true,false,false,false],_=>qso
 | [true,false,false,true],_=>qsg
 | [true,false,true,false],_=>qt4
 | [true,false,true,true],_=>qs0
 | [true,true,false,false],_=>qtw
 | [true,true,false,true],_=>qs8
 | [true,true,true,false],_=>qtg
 | [true,true,true,true],_=>qts
 | [false,false,false,false,false],_=>qnj
 | [false,false,false,false,true],_=>ql3
 | [false,false,false,true,false],_=>qo7
 | [false,false,false,true,true],_=>qoz
 | [false,false,true,false,false],_=>qon
 | [false,false,true,false,true],_=>qmf
 | [false,false,true,true,false],_=>qmv
 | [false,false,true,true,true],_=>qob
 | [false,true,false,false,false],_=>qmz
 | [false,true,false,false,true],_=>qnb
 | [false,true,false,true,false],_=>qnv
 | [false,true,false,true,true],_=>qor
 | [false,true,true,false,false],_=>qn7
 | [false,true,true,false,true],_=>qof
 | [false,true,true,true,false],_=>qov
 | [false,true,true,true,true],_=>ql7
 | [true,false,false,false,false],_=>qnf
 | [true,false,false,false,true],_=>qlz
 | [true,false,false,true,false],_=>qo3
 | [true,false,false,true,true],_=>qmb
 | [true,false,true,false,false],_=>qoj
 | [true,false,true,false,true],_=>qmr
 | [true,false,true,true,false],_=>qm7
 | [true,false,true,true,true],_=>qmn
 | [true,true,false,false,false],_=>qmj
 | [true,true,false,false,true],_=>qnr
 | [true,true,false,true,false],_=>qn3
 | [true,true,false,true,true],_=>qm3
 | [true,true,true,false,false],_=>qlv
 | [true,true,true,false,true],_=>qnn
 | [true,true,true,true,false],_=>qnz
 | [true,true,true,true,true],_=>qlr
 | _::_::_::_::_::_::_,h=>absurd h (by simp)
theorem qxz:∀ (s:List Bool),s.length<=5->iG s
 | [],_=>i_
 | [false],_=>i_f
 | [true],_=>i_t
 | [false,false],_=>q0h
 | [false,true],_=>q0d
 | [true,false],_=>qz5
 | [true,true],_=>qz9
 | [false,false,false],_=>qxv
 | [false,false,true],_=>qxr
 | [false,true,false],_=>qw7
 | [false,true,true],_=>qw3
 | [true,false,false],_=>qxj
 | [true,false,true],_=>qxn
 | [true,true,false],_=>qxb
 | [true,true,true],_=>qxf
 | [false,false,false,false],_=>qt1
 | [false,false,false,true],_=>qtp
 | [false,false,true,false],_=>qsx
 | [false,false,true,true],_=>qtd
 | [false,true,false,false],_=>qs5
 | [false,true,false,true],_=>qtl
 | [false,true,true,false],_=>qsl
 | [false,true,true,true],_=>qst
 | [true,false,false,false],_=>qsp
 | [true,false,false,true],_=>qsh
 | [true,false,true,false],_=>qt5
 | [true,false,true,true],_=>qs1
 | [true,true,false,false],_=>qtx
 | [true,true,false,true],_=>qs9
 | [true,true,true,false],_=>qth
 | [true,true,true,true],_=>qtt
 | [false,false,false,false,false],_=>qnk
 | [false,false,false,false,true],_=>ql4
 | [false,false,false,true,false],_=>qo8
 | [false,false,false,true,true],_=>qo0
 | [false,false,true,false,false],_=>qoo
 | [false,false,true,false,true],_=>qmg
 | [false,false,true,true,false],_=>qmw
 | [false,false,true,true,true],_=>qoc
 | [false,true,false,false,false],_=>qm0
 | [false,true,false,false,true],_=>qnc
 | [false,true,false,true,false],_=>qnw
 | [false,true,false,true,true],_=>qos
 | [false,true,true,false,false],_=>qn8
 | [false,true,true,false,true],_=>qog
 | [false,true,true,true,false],_=>qow
 | [false,true,true,true,true],_=>ql8
 | [true,false,false,false,false],_=>qng
 | [true,false,false,false,true],_=>ql0
 | [true,false,false,true,false],_=>qo4
 | [true,false,false,true,true],_=>qmc
 | [true,false,true,false,false],_=>qok
 | [true,false,true,false,true],_=>qms
 | [true,false,true,true,false],_=>qm8
 | [true,false,true,true,true],_=>qmo
 | [true,true,false,false,false],_=>qmk
 | [true,true,false,false,true],_=>qns
 | [true,true,false,true,false],_=>qn4
 | [true,true,false,true,true],_=>qm4
 | [true,true,true,false,false],_=>qlw
 | [true,true,true,false,true],_=>qno
 | [true,true,true,true,false],_=>qn0
 | [true,true,true,true,true],_=>qls
 | _::_::_::_::_::_::_,h=>absurd h (by simp)
theorem qx0:∀ (s:List Bool),s.length<=5->tG s
 | [],_=>t_
 | [false],_=>t_f
 | [true],_=>t_t
 | [false,false],_=>q0i
 | [false,true],_=>q0e
 | [true,false],_=>qz6
 | [true,true],_=>q0a
 | [false,false,false],_=>qxw
 | [false,false,true],_=>qxs
 | [false,true,false],_=>qw8
 | [false,true,true],_=>qw4
 | [true,false,false],_=>qxk
 | [true,false,true],_=>qxo
 | [true,true,false],_=>qxc
 | [true,true,true],_=>qxg
 | [false,false,false,false],_=>qt2
 | [false,false,false,true],_=>qtq
 | [false,false,true,false],_=>qsy
 | [false,false,true,true],_=>qte
 | [false,true,false,false],_=>qs6
 | [false,true,false,true],_=>qtm
 | [false,true,true,false],_=>qsm
 | [false,true,true,true],_=>qsu
 | [true,false,false,false],_=>qsq
 | [true,false,false,true],_=>qsi
 | [true,false,true,false],_=>qt6
 | [true,false,true,true],_=>qs2
 | [true,true,false,false],_=>qty
 | [true,true,false,true],_=>qta
 | [true,true,true,false],_=>qti
 | [true,true,true,true],_=>qtu
 | [false,false,false,false,false],_=>qnl
 | [false,false,false,false,true],_=>ql5
 | [false,false,false,true,false],_=>qo9
 | [false,false,false,true,true],_=>qo1
 | [false,false,true,false,false],_=>qop
 | [false,false,true,false,true],_=>qmh
 | [false,false,true,true,false],_=>qmx
 | [false,false,true,true,true],_=>qod
 | [false,true,false,false,false],_=>qm1
 | [false,true,false,false,true],_=>qnd
 | [false,true,false,true,false],_=>qnx
 | [false,true,false,true,true],_=>qot
 | [false,true,true,false,false],_=>qn9
 | [false,true,true,false,true],_=>qoh
 | [false,true,true,true,false],_=>qox
 | [false,true,true,true,true],_=>ql9
 | [true,false,false,false,false],_=>qnh
 | [true,false,false,false,true],_=>ql1
 | [true,false,false,true,false],_=>qo5
 | [true,false,false,true,true],_=>qmd
 | [true,false,true,false,false],_=>qol
 | [true,false,true,false,true],_=>qmt
 | [true,false,true,true,false],_=>qm9
 | [true,false,true,true,true],_=>qmp
 | [true,true,false,false,false],_=>qml
 | [true,true,false,false,true],_=>qnt
 | [true,true,false,true,false],_=>qn5
 | [true,true,false,true,true],_=>qm5
 | [true,true,true,false,false],_=>qlx
 | [true,true,true,false,true],_=>qnp
 | [true,true,true,true,false],_=>qn1
 | [true,true,true,true,true],_=>qlt
 | _::_::_::_::_::_::_,h=>absurd h (by simp)
theorem j02 {α β:Type} (g:α->β):∀ (l:List α),(l.map (fun v=>(v,g v))).map (·.1)=l
 | []=>rfl
 | a::l=>congrArg (a::·) (j02 g l)
theorem qe3 (b i:Nat) (ops:List Ms.Opd):(evO b i ops).map (·.1)=dfO ops:=j02 _ _
theorem j31 (b:Nat):∀ (l:List Ms.Ins) (i:Nat),(evI b i l).map (·.1)=(l.map jbm).flatten
 | [],i=>rfl
 | x::l,i=>by
  unfold evI
  rw[f27,qe3,j31 b l]
  rfl
theorem jvh:∀ (l:List Blk) (k:Nat),(evL k l).map (·.1)=jcs l
 | [],k=>rfl
 | b::l,k=>by
  unfold evL evB evP
  rw[f27,f27,j31,jvh l,j02]
  simp[jcs,jch]
theorem qbm {b:Nat} {y:Ms.Ins} (hv:v∈jbm y):∀ {l:List Ms.Ins} {i j:Nat},l[i]?=some y->(v,(b,((j+i:Nat):Int)))∈evI b j l
 | [],i,j,h=>by simp at h
 | x::l,0,j,h=>by
  simp only[f1e,Option.some.injEq] at h
  subst h
  unfold evI
  exact f05 _ (f07.2 ⟨v,hv,rfl⟩)
 | x::l,i+1,j,h=>by
  simp only[f2i] at h
  unfold evI
  have:=qbm (b:=b) hv (j:=j+1) h
  rw[show j+1+i=j+(i+1) by omega] at this
  exact f0z _ this
theorem qbn {b:Nat}:∀ {l:List Blk} {k:Nat} {i:Nat},b=k+i->j00 l v i n->(v,(b,n))∈evL k l
 | [],k,i,e,h=>by
  obtain⟨x,h1,_⟩:=h
  simp at h1
 | x::l,k,0,e,h=>by
  obtain⟨y,h1,h2⟩:=h
  simp only[f1e,Option.some.injEq] at h1
  subst h1
  rw[f1l] at e
  subst e
  unfold evL evB
  refine f05 _ ?_
  rcases h2 with⟨rfl,h2⟩ | ⟨i,y,rfl,h2,h3⟩
  .exact f05 _ (f07.2 ⟨v,h2,rfl⟩)
  .have:=qbm (b:=b) h3 (j:=0) h2
   rw[f0y] at this
   exact f0z _ this
 | x::l,k,i+1,e,h=>by
  unfold evL
  refine f0z _ (qbn (i:=i) (by omega) ?_)
  obtain⟨y,h1,h2⟩:=h
  exact⟨y,by simpa using h1,h2⟩
theorem qbo:∀ (l:List (Nat×(Nat×Int))) (T:List (Nat×Int)),v∉l.map (·.1)->(spF T l)[v]?=T[v]?
 | [],T,_=>rfl
 | e::l,T,h=>by
  simp only[f2r,f0e,not_or] at h
  show(spF (T.set e.1 e.2) l)[v]?=_
  rw[qbo l _ h.2,f10 (fun x=>h.1 x.symm)]
theorem qbp {p:Nat×Int}:∀ (l:List (Nat×(Nat×Int))) (T:List (Nat×Int)),(l.map (·.1)).Nodup->v<T.length->(v,p)∈l->(spF T l)[v]?=some p
 | [],T,_,_,h=>by cases h
 | e::l,T,hd,hv,h=>by
  rw[f2r,f0u] at hd
  show(spF (T.set e.1 e.2) l)[v]?=_
  rcases f0e.1 h with rfl | h
  .rw [qbo l _ hd.1,List.getElem?_set_self hv]
  .exact qbp l _ hd.2 (by rw[f1t];exact hv) h
theorem qe4 {f:Fc} (hm:(jcs f.blocks).Perm (List.range f.values.length)) {b:Nat} (h:j00 f.blocks v b n):(jej f)[v]?=some (b,n):=by
 have hmem:=qbn (k:=0) (i:=b) (f0y b).symm h
 have hk:v∈jcs f.blocks:=by rw[←jvh f.blocks 0];exact f07.2 ⟨_,hmem,rfl⟩
 have hv:v<f.values.length:=f2f.1 (hm.mem_iff.1 hk)
 unfold jej
 exact qbp _ _ (by rw[jvh];exact hm.nodup_iff.2 List.nodup_range) (by rw[f3d];exact hv) hmem
theorem jqv.kt {f:Fc} (hm:(jcs f.blocks).Perm (List.range f.values.length)) {k i:Nat} (h:jqv idom f.blocks v k i):KT idom (jej f) v k i:=by
 obtain⟨b,n,h1,h2⟩:=h
 exact⟨(b,n),qe4 hm h1,h2⟩
def gPs (l:List Blk) (k:Nat):SV:=jae jal (l.getD k jgq).params
def gIs (l:List Blk) (k:Nat):SV:=jae jco (l.getD k jgq).instrs
def gAs (l:List Blk) (k j:Nat):SV:=jae jal ((l.getD k jgq).edges.getD j ⟨0,[]⟩).args
theorem qbq (a:Nat->SV):∀ (r p:List Ms.Edg),(∀ j,a j=jae jal ((p++r).getD j ⟨0,[]⟩).args)->qu0 a p.length (r.map (·.block))=r.map jfj
 | [],p,h=>rfl
 | e::r,p,h=>by
  show[si e.block,a p.length]::qu0 a (p.length+1) (r.map (·.block))=jfj e::r.map jfj
  have h1:a p.length=jae jal e.args:=by
   rw[h,f0d,f0t (f0f _)];simp
  have h2:=qbq a r (p++[e]) (fun j=>by rw[h];simp)
  rw[f02] at h2
  rw[h1]
  exact congrArg _ h2
theorem qpd (a:Nat->SV) (l:List Ms.Edg) (h:∀ j,a j=jae jal (l.getD j ⟨0,[]⟩).args):qu1 a (l.map (·.block))=jae jfj l:=by
 cases l with
 | nil=>rfl
 | cons e r =>
  have:=qbq a (e::r) [] (by simpa using h)
  exact congrArg SV.lst this
theorem j32 (l:List Blk):∀ (r p:List Blk),p++r=l->qa6 (gPs l) (gIs l) (gAs l) p.length (grL r)=r.map jaw
 | [],p,h=>rfl
 | b::r,p,h=>by
  have hb:l.getD p.length jgq=b:=by rw[←h,f0d,f0t (f0f _)];simp
  show[gPs l p.length,gIs l p.length,qu1 (gAs l p.length) (qhe b)]::qa6 (gPs l) (gIs l) (gAs l) (p.length+1) (grL r)=jaw b::r.map jaw
  have h1:qu1 (gAs l p.length) (qhe b)=jae jfj b.edges:=qpd _ _ (fun j=>by unfold gAs;rw[hb])
  have h2:=j32 l r (p++[b]) (by rw[←h];simp)
  rw[f02] at h2
  rw[h1]
  unfold gPs gIs
  rw[hb]
  exact congrArg _ h2
theorem jvi {f:Fc} (hne:f.blocks≠[]):[jae jal f.values,jae jaw f.blocks]=qu2 (grL f.blocks) (jae jal f.values) (gPs f.blocks) (gIs f.blocks) (gAs f.blocks):=by
 have h:=j32 f.blocks f.blocks [] rfl
 unfold qu2
 rw[show qa6 (gPs f.blocks) (gIs f.blocks) (gAs f.blocks) 0 (grL f.blocks)=f.blocks.map jaw from h]
 cases e:f.blocks with
 | nil=>exact absurd e hne
 | cons b r=>rfl
section
variable {f:Fc} {s:List Bool} {h:Hp} {Q:AV->Hp->Prop}
theorem qe5 (hs:s.length<=5) (hg:grL f.blocks=gS s) (hne:f.blocks≠[]):jcj F8 34 [.agg [jae jal f.values,jae jaw f.blocks]] h=some (.s (jae jal (jku s 0)),h) :=
 jbf rfl (by simp only[jat,ja0,ja7,jb0,ja1,ja8,ja5,jbj,ja9,jbg,if_true]) (by rw[jvi hne,hg];exact jkf (qxx s hs _ _ _ _))
theorem qpe (hs:s.length<=5) (hg:grL f.blocks=gS s) (hne:f.blocks≠[]):jcj F8 35 [.agg [jae jal f.values,jae jaw f.blocks]] h=some (.s (jae jvc (jqu (gS s))),h) :=
 jbf rfl (by simp only[jat,ja0,ja7,jb0,ja1,ja8,ja5,jbj,ja9,jbg,if_true]) (by rw[jvi hne,hg];exact jkf (qxy s hs _ _ _ _))
theorem qe6 (hs:s.length<=5) (hg:grL f.blocks=gS s) (hne:f.blocks≠[]):jcj F8 37 [.agg [jae jal f.values,jae jaw f.blocks],.s (jae jal (jku s 0))] h=some (.s (jae jke (jed s)),h) :=
 jbf rfl (by simp only[jat,ja0,ja7,jb0,ja1,ja8,ja5,jbj,ja9,jbg,if_true]) (by rw[jvi hne,hg];exact jkf (qxz s hs _ _ _ _))
theorem qpf (hs:s.length<=5) (hg:grL f.blocks=gS s) (hne:f.blocks≠[]):jcj F8 25 [.agg [jae jal f.values,jae jaw f.blocks]] h=some (.agg (j5n (jku s 0) (jed s) (qlg s)),h) :=
 jbf rfl (by simp only[jat,ja0,ja7,jb0,ja1,ja8,ja5,jbj,ja9,jbg,if_true]) (by rw[jvi hne,hg];exact jkf (qx0 s hs _ _ _ _))
end
def shp:Nat->List (List Bool)
 | 0=>[[]]
 | n+1=>[]::((shp n).map (false::·)++(shp n).map (true::·))
theorem qbr:∀ (n:Nat) (s:List Bool),s.length<=n->s∈shp n
 | 0,s,h=>by
  have:=f1r (Nat.le_zero.1 h)
  subst this;exact f0k.2 rfl
 | n+1,[],h=>by unfold shp;simp
 | n+1,b::s,h=>by
  have:=qbr n s (by simpa using h)
  unfold shp
  refine f06 _ (f0g.2 ?_)
  cases b
  .exact .inl (f07.2 ⟨s,this,rfl⟩)
  .exact .inr (f07.2 ⟨s,this,rfl⟩)
theorem qbs {P:List Bool->Bool} (h:(shp 5).all P=true) {s:List Bool} (hs:s.length<=5):P s=true:=f20.1 h s (qbr 5 s hs)
def qyz (g:List (List Nat)):Bool:=g.all (fun es=>es.length<=1||es.all (fun t=>((jqu g).getD t [0,0]).length<=1))
theorem qe7:(shp 5).all (fun s=>qyz (gS s))=true:=by kernel_rfl
theorem jvj:∀ (s:List Bool) (c:Nat),(jku s c).length=1+3*s.length
 | [],c=>rfl
 | false::s,c=>by simp[jku,jvj s];omega
 | true::s,c=>by simp[jku,jvj s];omega
structure FlOk (m:Nat×Nat) (f:Fc) (s:List Bool):Prop where
 k:FcOk m f
 on:jpz f=0
 hs:s.length<=5
 hg:grL f.blocks=gS s
 hv:f.values≠[]
 us:UsOk (jed s) f
theorem FlOk.hne {m:Nat×Nat} {f:Fc} {s:List Bool} (o:FlOk m f s):f.blocks≠[]:=f1g.1 (by have:=o.k.nb;omega)
theorem FlOk.len {m:Nat×Nat} {f:Fc} {s:List Bool} (o:FlOk m f s):f.blocks.length=1+3*s.length:=by rw[←jd9,o.hg,qa8]
theorem qbt {m:Nat×Nat} (m1:2<=m.1/\m.1<=10) (m2:2<=m.2/\m.2<=10) (l:List Pc):∃ s,FlOk m (je9 m l) s/\(jcs (je9 m l).blocks).Perm (List.range (je9 m l).values.length) /\
 (∀ (k i:Nat) (b:Blk) (x:Ms.Ins) (o:Ms.Opd),(je9 m l).blocks[k]?=some b->b.instrs[i]?=some x->o∈x.ops->o.kind=1->jqv (jed s) (je9 m l).blocks o.value k i):=by
 obtain⟨k,kp,_⟩:=j2s m1 m2 l
 obtain⟨s,h1,h2,h3,h4⟩:=j5o m1 m2 l
 have hv:(je9 m l).values≠[]:=by
  obtain⟨b,g,c,n,_⟩:=((jka m1 m2).pieces (l.take 24)).bd.lay ⟨0,0,1,0,0,0,3⟩
  obtain⟨_,_,_,_,_,_,_,_,cs,e1,e2,_⟩:=qkb ((jka m1 m2).pieces (l.take 24)).v ⟨0,0,1,0,0,0,3⟩
  have:(je9 m l).values=(jcl ((l.take 24).foldl jbs (jbp m)) ⟨0,0,1,0,0,0,3⟩).values:=rfl
  rw[this,e2]
  rcases e1 with rfl | rfl<;>simp
 refine⟨s,⟨k,qen kp,h1,h2,hv,⟨by have:=k.nb;omega,fun b hb=>by have:=k.blk b hb;omega,fun a i b x hb hx=>⟨(k.ins b (f0b hb) x (f0b hx)).nops,fun o ho hk=>jqv.kt kp (h3 a i b x o hb hx ho hk)⟩,fun a b e hb he=>⟨?_,fun v hv=>jqv.kt kp (h4 a b e v hb he hv)⟩⟩⟩,kp,h3⟩
 obtain⟨_,_,t,h5,h6,_⟩:=k.edg b (f0b hb) e he
 have h7:=(k.blk t (f0b h5)).1
 have:=congrArg List.length h6
 simp only[f1b] at this
 omega
def S10 (f:FuncId):Bool:=Nat.beq f 36
def F10:Fns:=PX S10 F9
theorem qx1 {A:Nat->Int}:Env Try.prog A tys F10:=jfw q0k
theorem qy0 {f:FuncId} (h1:S1 f=false) (h2:Nat.beq f jfa.f=false) (h3:S3 f=false) (h4:S4 f=false) (h5:S5 f=false) (h6:S6 f=false) (h7:S7 f=false) (h8:S8 f=false) (h9:S9 f=false) (h10:S10 f=false) {h:Hp}:jcj F10 f vs h=none:=(jbb h10).trans (no9 h1 h2 h3 h4 h5 h6 h7 h8 h9)
section
variable {h:Hp} {m:Nat×Nat} {f:Fc} {s:List Bool} {Q:AV->Hp->Prop}
theorem qp0 (h9:S9 g=false) (h10:S10 g=false):jcj F10 g vs h=jcj F8 g vs h:=(jbb h10).trans (jbb h9)
theorem qe8 (o:FlOk m f s) (m1:2<=m.1/\m.1<=10) (m2:2<=m.2/\m.2<=10):WC F10 33 [.agg [jae jal f.values,jae jaw f.blocks],.agg [si m.1,si m.2]] h Q=Q (vi 0) h :=
 jaq ((qp0 rfl rfl).trans ((jbb rfl).trans (by rw[qr0 o.k m1 m2,o.on];rfl)))
theorem jr7 (o:FlOk m f s):WC F10 34 [.agg [jae jal f.values,jae jaw f.blocks]] h Q=Q (.s (jae jal (jku s 0))) h:=jaq ((qp0 rfl rfl).trans (qe5 o.hs o.hg o.hne))
theorem qbu (o:FlOk m f s):WC F10 35 [.agg [jae jal f.values,jae jaw f.blocks]] h Q=Q (.s (jae jvc (jqu (gS s)))) h:=jaq ((qp0 rfl rfl).trans (qpe o.hs o.hg o.hne))
theorem j5p (o:FlOk m f s):WC F10 37 [.agg [jae jal f.values,jae jaw f.blocks],.s (jae jal (jku s 0))] h Q=Q (.s (jae jke (jed s))) h:=jaq ((qp0 rfl rfl).trans (qe6 o.hs o.hg o.hne))
theorem qe9 (o:FlOk m f s):WC F10 36 [.agg [jae jal f.values,jae jaw f.blocks],.s (jae jke (jed s))] h Q=Q (vb true) h :=
 jaq (jbf rfl (by simp only[jat,ja0,ja7,jb0,ja1,ja8,ja5,jbj,ja9,jbg,if_true]) (qpc jdo o.us (by have:=o.k.nv;omega) o.hv (j96 o.k)))
end
theorem FlOk.pred {m:Nat×Nat} {f:Fc} {s:List Bool} (o:FlOk m f s) {b:Blk} (hb:b∈f.blocks) (h:1<b.edges.length) {e:Ms.Edg} (he:e∈b.edges):∃ pl,(jqu (gS s))[e.block]?=some pl/\pl.length<=1:=by
 have h1:=qbs qe7 o.hs
 unfold qyz at h1
 rw[f20] at h1
 have h2:=h1 (qhe b) (by rw[←o.hg];exact f07.2 ⟨b,hb,rfl⟩)
 simp only[f15,decide_eq_true_eq,f20] at h2
 have h3:=h2.resolve_left (by unfold qhe;rw[f1b];omega) e.block (f07.2 ⟨e,he,rfl⟩)
 rw[f0d] at h3
 cases hq:(jqu (gS s))[e.block]? with
 | none=>rw[hq] at h3;simp at h3
 | some pl=>rw[hq] at h3;exact⟨pl,rfl,h3⟩
theorem qbv {m:Nat×Nat} {f:Fc} {s:List Bool} (o:FlOk m f s) {b:Blk} (hb:b∈f.blocks) {Q:Ex->St->Prop} :
 ∀ (d j:Nat) (_:j+d=b.edges.length) {hi:Hp} (_:Ok hi) (_:bB<hi.next) (_:hi.get bB=some (.arr [jae jal b.params,jae jco b.instrs,jae jfj b.edges] 42)) {x4 x5 x8:AV}
  (hQ:∀ hj x4 x5 x8,Ok hj->hi.next<=hj.next->(∀ n,n<hi.next->hj.get n=hi.get n)->Q (.exit 2) (.mk [x0,x1,x2,x3,x4,x5,.s (jae jvc (jqu (gS s))),.s (jae jfj b.edges),x8,vi b.edges.length,vi b.edges.length,.s (.ptr bB 0),x12,x13,x14,x15,x16,x17,x18,x19,x20] hj)),
  W F10 jkm.loop (.mk [x0,x1,x2,x3,x4,x5,.s (jae jvc (jqu (gS s))),.s (jae jfj b.edges),x8,vi b.edges.length,vi j,.s (.ptr bB 0),x12,x13,x14,x15,x16,x17,x18,x19,x20] hi) Q
 | 0,j,hd,hi,ok,hB,xB,x4,x5,x8,hQ=>by
  obtain rfl:j=b.edges.length:=by omega
  rw[jah]
  unfold jkm
  simp(disch:=first|omega|rfl) only[go_sem,f0n]
  exact hQ hi _ _ _ ok (f0f _) (fun _ _=>rfl)
 | d+1,j,hd,hi,ok,hB,xB,x4,x5,x8,hQ=>by
  have hlt:(j:Int)<(b.edges.length:Int):=by omega
  have hne:=(o.k.blk b hb).2.2
  obtain⟨e,hio⟩:∃ y,b.edges[j]?=some y:=⟨_,f0a (by omega)⟩
  have hix:=jag (enc:=jfj) (size:=2) hio rfl
  have hs:(j:Int)+1=((j+1:Nat):Int):=by omega
  obtain⟨hA,eA,okA,nA,xA,gA⟩:=jbn ok [.int .i64 0,.nilSlice] (jfj e) 56
  have yB:=(gA _ hB).trans xB
  have l2:=jaf (enc:=jfj) (l:=b.edges)
  unfold jfj at xA eA
  rw[jah]
  unfold jkm jyd
  by_cases h1:1<b.edges.length
  .have c1:(1<(b.edges.length:Int))=True:=by simp;omega
   obtain⟨pl,h2,h3⟩:=o.pred hb h1 (f0b hio)
   have hxp:=jag (enc:=jvc) (size:=1) h2 rfl
   have l3:=jaf (enc:=jal) (l:=pl)
   have c2:(1<(pl.length:Int))=False:=by simp;omega
   simp(disch:=first|omega|rfl) only[go_sem,jab,eq_true hlt,hix,jfj,eA,xA,yB,l2,c1,hxp,jvc,l3,c2,hs]
   exact qbv o hb d (j+1) (by omega) okA (by omega) yB (fun hj x4 x5 x8 ok' n g=>hQ hj x4 x5 x8 ok' (by omega) (fun q hq=>(g q (by omega)).trans (gA q hq)))
  .have c1:(1<(b.edges.length:Int))=False:=by simp;omega
   simp(disch:=first|omega|rfl) only[go_sem,jab,eq_true hlt,hix,jfj,eA,xA,yB,l2,c1,hs]
   exact qbv o hb d (j+1) (by omega) okA (by omega) yB (fun hj x4 x5 x8 ok' n g=>hQ hj x4 x5 x8 ok' (by omega) (fun q hq=>(g q (by omega)).trans (gA q hq)))
theorem qhr {m:Nat×Nat} {f:Fc} {s:List Bool} (o:FlOk m f s) {bF:Nat} {Q:Ex->St->Prop} :
 ∀ (d j:Nat) (_:j+d=f.blocks.length) {hi:Hp} (_:Ok hi) (_:bF<hi.next) {x4 x5 x7 x8 x9 x10 x11 x13:AV}
  (hQ:∀ hj x4 x5 x7 x8 x9 x10 x11 x13,Ok hj->hi.next<=hj.next->hj.get bF=hi.get bF->Q (.exit 0) (.mk [x0,x1,x2,x3,x4,x5,.s (jae jvc (jqu (gS s))),x7,x8,x9,x10,x11,.s (jae jaw f.blocks),x13,vi f.blocks.length,vi f.blocks.length,x16,x17,x18,x19,.s (.ptr bF 0)] hj)),
  W F10 jkn.loop (.mk [x0,x1,x2,x3,x4,x5,.s (jae jvc (jqu (gS s))),x7,x8,x9,x10,x11,.s (jae jaw f.blocks),x13,vi f.blocks.length,vi j,x16,x17,x18,x19,.s (.ptr bF 0)] hi) Q
 | 0,j,hd,hi,ok,hB,x4,x5,x7,x8,x9,x10,x11,x13,hQ=>by
  obtain rfl:j=f.blocks.length:=by omega
  rw[jah]
  unfold jkn
  simp(disch:=first|omega|rfl) only[go_sem,f0n]
  exact hQ hi _ _ _ _ _ _ _ _ ok (f0f _) rfl
 | d+1,j,hd,hi,ok,hB,x4,x5,x7,x8,x9,x10,x11,x13,hQ=>by
  have nb:=o.k.nb
  have hlt:(j:Int)<(f.blocks.length:Int):=by omega
  obtain⟨b,hio⟩:∃ y,f.blocks[j]?=some y:=⟨_,f0a (by omega)⟩
  have hbm:=f0b hio
  have hix:=jag (enc:=jaw) (size:=3) hio rfl
  have hs:(j:Int)+1=((j+1:Nat):Int):=by omega
  obtain⟨hA,eA,okA,nA,xA,gA⟩:=jbn ok [.nilSlice,.nilSlice,.nilSlice] (jaw b) 42
  have l2:=jaf (enc:=jfj) (l:=b.edges)
  unfold jaw at xA eA
  rw[jah]
  unfold jkn jye
  simp(disch:=first|omega|rfl) only[go_sem,jab,eq_true hlt,hix,jaw,eA,xA,l2]
  refine qbv o hbm b.edges.length 0 (by omega) okA (by omega) xA (fun hj x4 x5 x8 ok' n g=>?_)
  simp(disch:=first|omega|rfl) only[go_sem,jab,hs]
  exact qhr o d (j+1) (by omega) ok' (by omega) (fun hk x4 x5 x7 x8 x9 x10 x11 x13 o' n' g'=>hQ hk x4 x5 x7 x8 x9 x10 x11 x13 o' (by omega) (g'.trans ((g _ (by omega)).trans (gA _ hB))))
theorem qpg {h:Hp} (ok:Ok h) {m:Nat×Nat} {f:Fc} {s:List Bool} (o:FlOk m f s) (m1:2<=m.1/\m.1<=10) (m2:2<=m.2/\m.2<=10):WC F10 24 [.agg [jae jal f.values,jae jaw f.blocks],.agg [si m.1,si m.2]] h (fun v h'=>∃ d,jgd true h' d v=some (vi 0)):=by
 refine ja2 (qy0 rfl rfl rfl rfl rfl rfl rfl rfl rfl rfl) qln rfl ?_
 unfold j30
 obtain⟨hA,eA,okA,nA,xA,gA⟩:=jdy ok [jae jal f.values,jae jaw f.blocks] 30
 obtain⟨hB,eB,okB,nB,xB,gB⟩:=jdy okA [si m.1,si m.2] 25
 have yA:=(gB _ (by omega)).trans xA
 rw[nA] at xB
 have l2:=jaf (enc:=jaw) (l:=f.blocks)
 have l3:=jaf (enc:=jal) (l:=jku s 0)
 have c1:(((jku s 0).length:Int)<(f.blocks.length:Int))=False:=eq_false (by rw[jvj,o.len];omega)
 have hh:(hB.next<=h.next/\h.next<hB.next)=False:=eq_false (by omega)
 simp(disch:=first|omega|rfl) only[go_sem,eA,eB,nA,yA,xB,qe8 o m1 m2]
 unfold jyi jyc
 simp(disch:=first|omega|rfl) only[go_sem,yA,xB,jr7 o,l3,l2,c1,hh]
 unfold jyh
 simp(disch:=first|omega|rfl) only[go_sem,yA,qbu o,l2]
 refine qhr o f.blocks.length 0 (by omega) okB (by omega) (fun hj x4 x5 x7 x8 x9 x10 x11 x13 o' n g=>?_)
 have zA:=g.trans yA
 have hh:(hj.next<=h.next/\h.next<hj.next)=False:=eq_false (by omega)
 unfold jyf
 simp(disch:=first|omega|rfl) only[go_sem,zA,jr7 o,j5p o,qe9 o,hh]
 unfold jyg
 simp(disch:=first|omega|rfl) only[go_sem]
 exact⟨1,rfl⟩
def S11 (f:FuncId):Bool:=Nat.beq f 24
def F11:Fns:=PX S11 F10
theorem qx2 {A:Nat->Int}:Env Try.prog A tys F11:=jfw qx1
theorem qy1 {f:FuncId} (h1:S1 f=false) (h2:Nat.beq f jfa.f=false) (h3:S3 f=false) (h4:S4 f=false) (h5:S5 f=false) (h6:S6 f=false) (h7:S7 f=false) (h8:S8 f=false) (h9:S9 f=false) (h10:S10 f=false) (h11:S11 f=false) {h:Hp}:jcj F11 f vs h=none:=(jbb h11).trans (qy0 h1 h2 h3 h4 h5 h6 h7 h8 h9 h10)
section
variable {h:Hp} {m:Nat×Nat} {f:Fc} {s:List Bool} {Q:AV->Hp->Prop}
theorem qph (o:FlOk m f s) (m1:2<=m.1/\m.1<=10) (m2:2<=m.2/\m.2<=10):jcj F11 24 [.agg [jae jal f.values,jae jaw f.blocks],.agg [si m.1,si m.2]] h=some (vi 0,h):=jbf rfl (by simp only[jat,ja0,ja7,jb0,ja1,ja8,ja5,jbj,ja9,jbg,if_true]) (qpg jdo o m1 m2)
theorem qbw (o:FlOk m f s):WC F11 25 [.agg [jae jal f.values,jae jaw f.blocks]] h Q=Q (.agg (j5n (jku s 0) (jed s) (qlg s))) h :=
 jaq ((jbb rfl).trans ((qp0 rfl rfl).trans (qpf o.hs o.hg o.hne)))
theorem qfa (o:FlOk m f s) (m1:2<=m.1/\m.1<=10) (m2:2<=m.2/\m.2<=10):WC F11 24 [.agg [jae jal f.values,jae jaw f.blocks],.agg [si m.1,si m.2]] h Q=Q (vi 0) h:=jaq (qph o m1 m2)
end
def qbx (s:List Bool):AV:=.tup [(true,j5n (jku s 0) (jed s) (qlg s)),(false,[si 0])]
theorem jvk {α:Type} {h:Hp} {d:Nat} {enc:α->List SV} {l:List α}:jhh true h (d+1) (jae enc l)=some (jae enc l):=by cases l<;>rfl
theorem qfb {h:Hp} {s:List Bool}:jgd true h 2 (.tup [(true,[jae jal (jku s 0),jae jke (jed s),jae jal (qlg s)]),(false,[.int .i64 0])])=some (qbx s):=by
 show ob (ob (jhz (jhh true h 2) [jae jal (jku s 0),jae jke (jed s),jae jal (qlg s)]) (fun x=>ob (qdc (jhh true h 2) [(false,[.int .i64 0])]) (fun r=>some ((true,x)::r)))) (fun y=>some (AV.tup y))=_
 rw[jcm jvk (jcm jvk (jua jvk))]
 rfl
theorem qpi {h:Hp} (ok:Ok h) {m:Nat×Nat} {f:Fc} {s:List Bool} (o:FlOk m f s) (m1:2<=m.1/\m.1<=10) (m2:2<=m.2/\m.2<=10):WC F11 12 [.agg [jae jal f.values,jae jaw f.blocks],.agg [si m.1,si m.2]] h (fun v h'=>∃ d,jgd true h' d v=some (qbx s)):=by
 refine ja2 (qy1 rfl rfl rfl rfl rfl rfl rfl rfl rfl rfl rfl) qw0 rfl ?_
 unfold qhj
 obtain⟨hA,eA,okA,nA,xA,gA⟩:=jdy ok [jae jal f.values,jae jaw f.blocks] 30
 obtain⟨hB,eB,okB,nB,xB,gB⟩:=jdy okA [si m.1,si m.2] 25
 obtain⟨hC,eC,okC,nC,xC,gC⟩:=jdy okB [.nilSlice,.nilSlice,.nilSlice] 36
 have yA:=(gC _ (by omega)).trans ((gB _ (by omega)).trans xA)
 have yB:=(gC _ (by omega)).trans xB
 have nb:hB.next=h.next+2:=by omega
 rw[nA] at yB
 rw[nb] at xC
 simp(disch:=first|omega|rfl) only[go_sem,eA,eB,eC,nA,nb,yA,yB,qfa o m1 m2]
 unfold qbg
 simp(disch:=first|omega|rfl) only[go_sem,yA,qbw o,j5n,xC]
 exact⟨2,qfb⟩
def S12 (f:FuncId):Bool:=Nat.beq f 12
def F12:Fns:=PX S12 F11
theorem qx3 {A:Nat->Int}:Env Try.prog A tys F12:=jfw qx2
theorem q0l {f:FuncId} (h1:S1 f=false) (h2:Nat.beq f jfa.f=false) (h3:S3 f=false) (h4:S4 f=false) (h5:S5 f=false) (h6:S6 f=false) (h7:S7 f=false) (h8:S8 f=false) (h9:S9 f=false) (h10:S10 f=false) (h11:S11 f=false) (h12:S12 f=false) {h:Hp}:jcj F12 f vs h=none:=(jbb h12).trans (qy1 h1 h2 h3 h4 h5 h6 h7 h8 h9 h10 h11)
section
variable {h:Hp} {m:Nat×Nat} {f:Fc} {s:List Bool} {Q:AV->Hp->Prop}
theorem qfc (h4:S4 g=false) (h5:S5 g=false) (h6:S6 g=false) (h7:S7 g=false) (h8:S8 g=false) (h9:S9 g=false) (h10:S10 g=false) (h11:S11 g=false) (h12:S12 g=false):jcj F12 g vs h=jcj F3 g vs h :=
 (jbb h12).trans ((jbb h11).trans ((qp0 h9 h10).trans ((jbb h8).trans (qz2 h4 h5 h6 h7))))
end
end
end Go.Proofs.Ytehhjbfmjdlcjaa.Ev
