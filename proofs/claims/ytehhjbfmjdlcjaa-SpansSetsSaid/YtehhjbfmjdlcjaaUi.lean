/- Is each value made where it is used? What the code tells. -/
import Derived.Test.YtehhjbfmjdlcjaaUe
import Derived.Test.YtehhjbfmjdlcjaaGT1
import Derived.Test.YtehhjbfmjdlcjaaGT3
import Derived.Test.YtehhjbfmjdlcjaaGT5
import Derived.Test.YtehhjbfmjdlcjaaGT7
namespace Go.Proofs.Ytehhjbfmjdlcjaa.Ev
noncomputable section
open Go Go.RowKit Go.Proofs.Ytehhjbfmjdlcjaa.Ms
attribute [local go_sem] Int.reduceToNat reduceCtorEq Nat.reduceAdd Nat.reduceMul Nat.reduceEqDiff Int.reduceEq Int.reduceLT Int.reduceLE Int.reduceNeg Int.reduceAdd Int.reduceSub Int.reduceMul Int.reduceNe
attribute [local go_sem ↓] reduceIte
set_option linter.all false
set_option maxRecDepth 100000
set_option maxHeartbeats 2000000
variable {x0 x1 x2 x3 x4 x5 x6 x7 x8 x9 x10 x11 x12 x13 x14 x15 x16 x17 x18 x19 x20 x21 x22 x23 x24 x25 x26 x27 x28 x29 x30 x31 x32 x33:AV} {g:FuncId} {n:Int} {vs:List AV} {idom:List Int} {a v bB:Nat}
def S8 (f:FuncId):Bool:=Nat.beq f 59||(Nat.beq f 53||(Nat.beq f 34||(Nat.beq f 35||(Nat.beq f 37||Nat.beq f 25))))
def F8:Fns:=PX S8 F7
theorem q0n {A:Nat->Int}:Env Try.prog A tys F8:=jfw qz5
theorem no8 {f:FuncId} (h1:S1 f=false) (h2:Nat.beq f jfa.f=false) (h3:S3 f=false) (h4:S4 f=false) (h5:S5 f=false) (h6:S6 f=false) (h7:S7 f=false) (h8:S8 f=false) {h:Hp}:jcj F8 f vs h=none:=(jbb h8).trans (no7 h1 h2 h3 h4 h5 h6 h7)
def S9 (f:FuncId):Bool:=Nat.beq f 54
def F9:Fns:=PX S9 F8
theorem q0o {A:Nat->Int}:Env Try.prog A tys F9:=jfw q0n
theorem no9 {f:FuncId} (h1:S1 f=false) (h2:Nat.beq f jfa.f=false) (h3:S3 f=false) (h4:S4 f=false) (h5:S5 f=false) (h6:S6 f=false) (h7:S7 f=false) (h8:S8 f=false) (h9:S9 f=false) {h:Hp}:jcj F9 f vs h=none:=(jbb h9).trans (no8 h1 h2 h3 h4 h5 h6 h7 h8)
theorem qpf {h:Hp} {Q:AV->Hp->Prop} {b:Int} (hd:Dom idom a b):WC F8 59 [.s (jae jkl idom),vi a,vi b] h Q=Q (vb true) h :=
 jaq (jbf rfl (by simp only[jat,ja0,ja7,jb0,ja1,ja8,ja5,jbj,ja9,jbg,if_true]) (qlt jdo hd))
def KP (idom:List Int) (p:Nat×Int) (k:Nat) (i:Nat):Prop:=(p.1=k/\p.2<(i:Int))∨(p.1≠k/\Dom idom p.1 k)
theorem qbp {h:Hp} (ok:Ok h) {k i:Nat} (hk:KP idom (a,n) k i):WC F8 54 [.s (jae jkl idom),.agg [si a,si n],.agg [si k,si i]] h (fun v h'=>∃ d,jgd true h' d v=some (vb true)):=by
 refine ja2 (no8 rfl rfl rfl rfl rfl rfl rfl rfl) qlr rfl ?_
 unfold j34
 obtain⟨hA,eA,okA,nA,xA,gA⟩:=jdy ok [si a,si n] 117
 obtain⟨hB,eB,okB,nB,xB,gB⟩:=jdy okA [si k,si i] 117
 have yA:=(gB _ (by omega)).trans xA
 rw[nA] at xB
 rcases hk with⟨h1,h2⟩ | ⟨h1,h2⟩
 .simp only at h1 h2
  have c1:((a:Int)=(k:Int))=True:=by simp;omega
  have c2:(n<(i:Int))=True:=eq_true h2
  simp(disch:=first|omega|rfl) only[go_sem,eA,nA,eB,yA,xB,c1,c2]
  exact⟨1,rfl⟩
 .simp only at h1 h2
  have c1:((a:Int)=(k:Int))=False:=by simp;omega
  simp(disch:=first|omega|rfl) only[go_sem,eA,nA,eB,yA,xB,c1]
  unfold jyg
  simp(disch:=first|omega|rfl) only[go_sem,yA,xB,qpf h2]
  exact⟨1,rfl⟩
theorem jyo {h:Hp} {Q:AV->Hp->Prop} {k i:Nat} (hk:KP idom (a,n) k i):WC F9 54 [.s (jae jkl idom),.agg [si a,si n],.agg [si k,si i]] h Q=Q (vb true) h :=
 jaq (jbf rfl (by simp only[jat,ja0,ja7,jb0,ja1,ja8,ja5,jbj,ja9,jbg,if_true]) (qbp jdo hk))
def KT (idom:List Int) (T:List (Nat×Int)) (v k i:Nat):Prop:=∃ p,T[v]?=some p/\KP idom p k i
theorem qbq {T:List (Nat×Int)} {l:List Ms.Opd} {k i:Nat} (hl:l.length<=10000) (hp:∀ o∈l,o.kind=1->KT idom T o.value k i) {Q:Ex->St->Prop} :
 ∀ (d j:Nat) (_:j+d=l.length) {hi:Hp} (_:Ok hi) {x14 x18 x20:AV}
  (hQ:∀ hj x14 x18 x20,Ok hj->hi.next<=hj.next->(∀ n,n<hi.next->hj.get n=hi.get n)->Q (.exit 4) (.mk [x0,.s (jae jkl idom),x2,x3,x4,x5,x6,x7,x8,x9,x10,x11,x12,x13,x14,vi i,vi k,.s (jae jih T),x18,.s (jae ja6 l),x20,vi l.length,vi l.length,x23,x24,x25,x26,x27,x28,x29,x30,x31,x32,x33] hj)),
  W F9 jko.loop (.mk [x0,.s (jae jkl idom),x2,x3,x4,x5,x6,x7,x8,x9,x10,x11,x12,x13,x14,vi i,vi k,.s (jae jih T),x18,.s (jae ja6 l),x20,vi l.length,vi j,x23,x24,x25,x26,x27,x28,x29,x30,x31,x32,x33] hi) Q
 | 0,j,hd,hi,ok,x14,x18,x20,hQ=>by
  obtain rfl:j=l.length:=by omega
  rw[jah]
  unfold jko
  simp(disch:=first|omega|rfl) only[go_sem,f0n]
  exact hQ hi _ _ _ ok (f0f _) (fun _ _=>rfl)
 | d+1,j,hd,hi,ok,x14,x18,x20,hQ=>by
  have hlt:(j:Int)<(l.length:Int):=by omega
  obtain⟨o,hio⟩:∃ y,l[j]?=some y:=⟨_,f0a (by omega)⟩
  have ho:=hp o (f0b hio)
  have hix:=jag (enc:=ja6) (size:=5) hio rfl
  have hs:(j:Int)+1=((j+1:Nat):Int):=by omega
  obtain⟨hA,eA,okA,nA,xA,gA⟩:=jbn ok [.int .i64 0,.int .i64 0,.bool false,.int .i64 0,.int .i64 0] (ja6 o) 48
  unfold ja6 at xA eA
  rw[jah]
  unfold jko jya
  by_cases e:o.kind=1
  .have c1:((o.kind:Int)=1)=True:=by simp;omega
   obtain⟨⟨pb,pn⟩,h1,h2⟩:=ho e
   have hxs:=jag (enc:=jih) (size:=2) h1 rfl
   simp(disch:=first|omega|rfl) only[go_sem,jab,eq_true hlt,hix,ja6,eA,xA,c1,hxs,jih,jyo h2,hs]
   exact qbq hl hp d (j+1) (by omega) okA (fun hj x14 x18 x20 o n g=>hQ hj x14 x18 x20 o (by omega) (fun m hm=>(g m (by omega)).trans (gA m hm)))
  .have c1:((o.kind:Int)=1)=False:=by simp;omega
   simp(disch:=first|omega|rfl) only[go_sem,jab,eq_true hlt,hix,ja6,eA,xA,c1,hs]
   exact qbq hl hp d (j+1) (by omega) okA (fun hj x14 x18 x20 o n g=>hQ hj x14 x18 x20 o (by omega) (fun m hm=>(g m (by omega)).trans (gA m hm)))
theorem qhs {T:List (Nat×Int)} {l:List Ms.Ins} {k:Nat} (hl:l.length<=10000) (hp:∀ (i:Nat) (x:Ms.Ins),l[i]?=some x->x.ops.length<=6/\∀ o∈x.ops,o.kind=1->KT idom T o.value k i) {Q:Ex->St->Prop} :
 ∀ (d j:Nat) (_:j+d=l.length) {hi:Hp} (_:Ok hi) {x14 x15 x18 x19 x20 x21 x22 x23 x25:AV}
  (hQ:∀ hj x14 x15 x18 x19 x20 x21 x22 x23 x25,Ok hj->hi.next<=hj.next->(∀ n,n<hi.next->hj.get n=hi.get n)->Q (.exit 2) (.mk [x0,.s (jae jkl idom),x2,x3,x4,x5,x6,x7,x8,x9,x10,x11,x12,x13,x14,x15,vi k,.s (jae jih T),x18,x19,x20,x21,x22,x23,.s (jae jco l),x25,vi l.length,vi l.length,x28,x29,x30,x31,x32,x33] hj)),
  W F9 jkp.loop (.mk [x0,.s (jae jkl idom),x2,x3,x4,x5,x6,x7,x8,x9,x10,x11,x12,x13,x14,x15,vi k,.s (jae jih T),x18,x19,x20,x21,x22,x23,.s (jae jco l),x25,vi l.length,vi j,x28,x29,x30,x31,x32,x33] hi) Q
 | 0,j,hd,hi,ok,x14,x15,x18,x19,x20,x21,x22,x23,x25,hQ=>by
  obtain rfl:j=l.length:=by omega
  rw[jah]
  unfold jkp
  simp(disch:=first|omega|rfl) only[go_sem,f0n]
  exact hQ hi _ _ _ _ _ _ _ _ _ ok (f0f _) (fun _ _=>rfl)
 | d+1,j,hd,hi,ok,x14,x15,x18,x19,x20,x21,x22,x23,x25,hQ=>by
  have hlt:(j:Int)<(l.length:Int):=by omega
  obtain⟨x,hio⟩:∃ y,l[j]?=some y:=⟨_,f0a (by omega)⟩
  obtain⟨hx1,hx2⟩:=hp j x hio
  have hix:=jag (enc:=jco) (size:=3) hio rfl
  have hs:(j:Int)+1=((j+1:Nat):Int):=by omega
  obtain⟨hA,eA,okA,nA,xA,gA⟩:=jbn ok [.int .i64 0,.nilSlice,.nilSlice] (jco x) 46
  have l1:=jaf (enc:=ja6) (l:=x.ops)
  unfold jco at xA eA
  rw[jah]
  unfold jkp jyb
  simp(disch:=first|omega|rfl) only[go_sem,jab,eq_true hlt,hix,jco,eA,xA,l1]
  refine qbq (by omega) hx2 x.ops.length 0 (by omega) okA (fun hj x14 x18 x20 o n g=>?_)
  simp(disch:=first|omega|rfl) only[go_sem,jab,hs]
  exact qhs hl hp d (j+1) (by omega) o (fun hk x14 x15 x18 x19 x20 x21 x22 x23 x25 o' n' g'=>hQ hk x14 x15 x18 x19 x20 x21 x22 x23 x25 o' (by omega) (fun m hm=>(g' m (by omega)).trans ((g m (by omega)).trans (gA m hm))))
theorem qht {T:List (Nat×Int)} {l:List Nat} {b:Blk} {k:Nat} (hl:l.length<=10000) (hp:∀ v∈l,KT idom T v k b.instrs.length) {Q:Ex->St->Prop} :
 ∀ (d j:Nat) (_:j+d=l.length) {hi:Hp} (_:Ok hi) (_:hi.get bB=some (.arr [jae jal b.params,jae jco b.instrs,jae jfj b.edges] 42)) {x3 x4 x6:AV}
  (hQ:∀ x3 x4 x6,Q (.exit 8) (.mk [x0,.s (jae jkl idom),x2,x3,x4,.s (jae jal l),x6,vi l.length,vi l.length,x9,x10,x11,x12,x13,x14,x15,vi k,.s (jae jih T),x18,x19,x20,x21,x22,x23,x24,x25,x26,x27,.s (.ptr bB 0),x29,x30,x31,x32,x33] hi)),
  W F9 jkq.loop (.mk [x0,.s (jae jkl idom),x2,x3,x4,.s (jae jal l),x6,vi l.length,vi j,x9,x10,x11,x12,x13,x14,x15,vi k,.s (jae jih T),x18,x19,x20,x21,x22,x23,x24,x25,x26,x27,.s (.ptr bB 0),x29,x30,x31,x32,x33] hi) Q
 | 0,j,hd,hi,ok,xB,x3,x4,x6,hQ=>by
  obtain rfl:j=l.length:=by omega
  rw[jah]
  unfold jkq
  simp(disch:=first|omega|rfl) only[go_sem,f0n]
  exact hQ _ _ _
 | d+1,j,hd,hi,ok,xB,x3,x4,x6,hQ=>by
  have hlt:(j:Int)<(l.length:Int):=by omega
  obtain⟨v,hio⟩:∃ y,l[j]?=some y:=⟨_,f0a (by omega)⟩
  obtain⟨⟨pb,pn⟩,h1,h2⟩:=hp v (f0b hio)
  have hix:=jag (enc:=jal) (size:=1) hio rfl
  have hxs:=jag (enc:=jih) (size:=2) h1 rfl
  have hs:(j:Int)+1=((j+1:Nat):Int):=by omega
  have l1:=jaf (enc:=jco) (l:=b.instrs)
  rw[jah]
  unfold jkq jyd jyc
  simp(disch:=first|omega|rfl) only[go_sem,jab,eq_true hlt,hix,jal,hxs,jih,xB,l1,jyo h2,hs]
  exact qht hl hp d (j+1) (by omega) ok xB hQ
theorem qhu {T:List (Nat×Int)} {l:List Ms.Edg} {b:Blk} {k:Nat} (hl:l.length<=10000) (hp:∀ e∈l,e.args.length<=10000/\∀ v∈e.args,KT idom T v k b.instrs.length) {Q:Ex->St->Prop} :
 ∀ (d j:Nat) (_:j+d=l.length) {hi:Hp} (_:Ok hi) (_:bB<hi.next) (_:hi.get bB=some (.arr [jae jal b.params,jae jco b.instrs,jae jfj b.edges] 42)) {x3 x4 x5 x6 x7 x8 x9 x11:AV}
  (hQ:∀ hj x3 x4 x5 x6 x7 x8 x9 x11,Ok hj->hi.next<=hj.next->(∀ n,n<hi.next->hj.get n=hi.get n)->Q (.exit 6) (.mk [x0,.s (jae jkl idom),x2,x3,x4,x5,x6,x7,x8,x9,.s (jae jfj l),x11,vi l.length,vi l.length,x14,x15,vi k,.s (jae jih T),x18,x19,x20,x21,x22,x23,x24,x25,x26,x27,.s (.ptr bB 0),x29,x30,x31,x32,x33] hj)),
  W F9 jkr.loop (.mk [x0,.s (jae jkl idom),x2,x3,x4,x5,x6,x7,x8,x9,.s (jae jfj l),x11,vi l.length,vi j,x14,x15,vi k,.s (jae jih T),x18,x19,x20,x21,x22,x23,x24,x25,x26,x27,.s (.ptr bB 0),x29,x30,x31,x32,x33] hi) Q
 | 0,j,hd,hi,ok,hb,xB,x3,x4,x5,x6,x7,x8,x9,x11,hQ=>by
  obtain rfl:j=l.length:=by omega
  rw[jah]
  unfold jkr
  simp(disch:=first|omega|rfl) only[go_sem,f0n]
  exact hQ hi _ _ _ _ _ _ _ _ ok (f0f _) (fun _ _=>rfl)
 | d+1,j,hd,hi,ok,hb,xB,x3,x4,x5,x6,x7,x8,x9,x11,hQ=>by
  have hlt:(j:Int)<(l.length:Int):=by omega
  obtain⟨e,hio⟩:∃ y,l[j]?=some y:=⟨_,f0a (by omega)⟩
  obtain⟨he1,he2⟩:=hp e (f0b hio)
  have hix:=jag (enc:=jfj) (size:=2) hio rfl
  have hs:(j:Int)+1=((j+1:Nat):Int):=by omega
  obtain⟨hA,eA,okA,nA,xA,gA⟩:=jbn ok [.int .i64 0,.nilSlice] (jfj e) 56
  have yB:=(gA _ hb).trans xB
  have l1:=jaf (enc:=jal) (l:=e.args)
  unfold jfj at xA eA
  rw[jah]
  unfold jkr jye
  simp(disch:=first|omega|rfl) only[go_sem,jab,eq_true hlt,hix,jfj,eA,xA,l1]
  refine qht he1 he2 e.args.length 0 (by omega) okA yB (fun x3 x4 x6=>?_)
  simp(disch:=first|omega|rfl) only[go_sem,jab,hs]
  exact qhu hl hp d (j+1) (by omega) okA (by omega) yB (fun hk x3 x4 x5 x6 x7 x8 x9 x11 o' n' g'=>hQ hk x3 x4 x5 x6 x7 x8 x9 x11 o' (by omega) (fun m hm=>(g' m (by omega)).trans (gA m hm)))
structure UsOk (idom:List Int) (f:Fc):Prop where
 nb:f.blocks.length<=10000
 sz:∀ b∈f.blocks,b.instrs.length<=10000/\b.edges.length<=10000
 us:∀ (k i:Nat) (b:Blk) (x:Ms.Ins),f.blocks[k]?=some b->b.instrs[i]?=some x->x.ops.length<=6/\∀ o∈x.ops,o.kind=1->KT idom (jej f) o.value k i
 ed:∀ (k:Nat) (b:Blk) (e:Ms.Edg),f.blocks[k]?=some b->e∈b.edges->e.args.length<=10000/\∀ v∈e.args,KT idom (jej f) v k b.instrs.length
theorem qhv {f:Fc} (u:UsOk idom f) {Q:Ex->St->Prop} :
 ∀ (d j:Nat) (_:j+d=f.blocks.length) {hi:Hp} (_:Ok hi) {x3 x4 x5 x6 x7 x8 x9 x10 x11 x12 x13 x14 x15 x16 x18 x19 x20 x21 x22 x23 x24 x25 x26 x27 x28 x30:AV}
  (hQ:∀ hj x3 x4 x5 x6 x7 x8 x9 x10 x11 x12 x13 x14 x15 x16 x18 x19 x20 x21 x22 x23 x24 x25 x26 x27 x28 x30,Q (.exit 0) (.mk [x0,.s (jae jkl idom),x2,x3,x4,x5,x6,x7,x8,x9,x10,x11,x12,x13,x14,x15,x16,.s (jae jih (jej f)),x18,x19,x20,x21,x22,x23,x24,x25,x26,x27,x28,.s (jae jaw f.blocks),x30,vi f.blocks.length,vi f.blocks.length,x33] hj)),
  W F9 jks.loop (.mk [x0,.s (jae jkl idom),x2,x3,x4,x5,x6,x7,x8,x9,x10,x11,x12,x13,x14,x15,x16,.s (jae jih (jej f)),x18,x19,x20,x21,x22,x23,x24,x25,x26,x27,x28,.s (jae jaw f.blocks),x30,vi f.blocks.length,vi j,x33] hi) Q
 | 0,j,hd,hi,ok,x3,x4,x5,x6,x7,x8,x9,x10,x11,x12,x13,x14,x15,x16,x18,x19,x20,x21,x22,x23,x24,x25,x26,x27,x28,x30,hQ=>by
  obtain rfl:j=f.blocks.length:=by omega
  rw[jah]
  unfold jks
  simp(disch:=first|omega|rfl) only[go_sem,f0n]
  exact hQ hi ..
 | d+1,j,hd,hi,ok,x3,x4,x5,x6,x7,x8,x9,x10,x11,x12,x13,x14,x15,x16,x18,x19,x20,x21,x22,x23,x24,x25,x26,x27,x28,x30,hQ=>by
  have nb:=u.nb
  have hlt:(j:Int)<(f.blocks.length:Int):=by omega
  obtain⟨b,hio⟩:∃ y,f.blocks[j]?=some y:=⟨_,f0a (by omega)⟩
  obtain⟨s1,s2⟩:=u.sz b (f0b hio)
  have hix:=jag (enc:=jaw) (size:=3) hio rfl
  have hs:(j:Int)+1=((j+1:Nat):Int):=by omega
  obtain⟨hA,eA,okA,nA,xA,gA⟩:=jbn ok [.nilSlice,.nilSlice,.nilSlice] (jaw b) 42
  have l1:=jaf (enc:=jco) (l:=b.instrs)
  have l2:=jaf (enc:=jfj) (l:=b.edges)
  unfold jaw at xA eA
  rw[jah]
  unfold jks jyf
  simp(disch:=first|omega|rfl) only[go_sem,jab,eq_true hlt,hix,jaw,eA,xA,l1]
  refine qhs s1 (fun i x hx=>u.us j i b x hio hx) b.instrs.length 0 (by omega) okA (fun hj x14 x15 x18 x19 x20 x21 x22 x23 x25 o n g=>?_)
  have yA:=(g _ (by omega)).trans xA
  simp(disch:=first|omega|rfl) only[go_sem,yA,l2]
  refine qhu s2 (fun e he=>u.ed j b e hio he) b.edges.length 0 (by omega) o (by omega) yA (fun hk x3 x4 x5 x6 x7 x8 x9 x11 o' n' g'=>?_)
  simp(disch:=first|omega|rfl) only[go_sem,jab,hs]
  exact qhv u d (j+1) (by omega) o' hQ
theorem qpg {h:Hp} {Q:AV->Hp->Prop} {f:Fc} (hl:f.blocks.length<=10000) (hv:f.values.length<=10000) (hne:f.values≠[]) (hp:∀ b∈f.blocks,b.params.length<=10000/\b.instrs.length<=10000/\(∀ v∈b.params,v<f.values.length)/\∀ x∈b.instrs,x.ops.length<=6/\∀ o∈x.ops,o.value<f.values.length) :
 WC F9 53 [.agg [jae jal f.values,jae jaw f.blocks]] h Q=Q (.s (jae jih (jej f))) h :=
 jaq ((jbb rfl).trans (jbf rfl (by simp only[jat,ja0,ja7,jb0,ja1,ja8,ja5,jbj,ja9,jbg,if_true]) (qlu jdo hl hv hne hp)))
theorem qph {h:Hp} (ok:Ok h) {f:Fc} (u:UsOk idom f) (hv:f.values.length<=10000) (hne:f.values≠[]) (hp:∀ b∈f.blocks,b.params.length<=10000/\b.instrs.length<=10000/\(∀ v∈b.params,v<f.values.length)/\∀ x∈b.instrs,x.ops.length<=6/\∀ o∈x.ops,o.value<f.values.length) :
 WC F9 36 [.agg [jae jal f.values,jae jaw f.blocks],.s (jae jkl idom)] h (fun v h'=>∃ d,jgd true h' d v=some (vb true)):=by
 refine ja2 (no9 rfl rfl rfl rfl rfl rfl rfl rfl rfl) qlq rfl ?_
 unfold j33
 obtain⟨hA,eA,okA,nA,xA,gA⟩:=jdy ok [jae jal f.values,jae jaw f.blocks] 30
 have l2:=jaf (enc:=jaw) (l:=f.blocks)
 simp(disch:=first|omega|rfl) only[go_sem,eA,xA,qpg u.nb hv hne hp,l2]
 refine qhv u f.blocks.length 0 (by omega) okA (fun hj x3 x4 x5 x6 x7 x8 x9 x10 x11 x12 x13 x14 x15 x16 x18 x19 x20 x21 x22 x23 x24 x25 x26 x27 x28 x30=>?_)
 simp(disch:=first|omega|rfl) only[go_sem]
 exact⟨1,rfl⟩
theorem qx1:∀ (s:List Bool),s.length<=5->oG s
 | [],_=>o_
 | [false],_=>o_f
 | [true],_=>o_t
 | [false,false],_=>q0j
 | [false,true],_=>q0f
 | [true,false],_=>qz7
 | [true,true],_=>q0b
 | [false,false,false],_=>qxx
 | [false,false,true],_=>qxt
 | [false,true,false],_=>qw9
 | [false,true,true],_=>qw5
 | [true,false,false],_=>qxl
 | [true,false,true],_=>qxp
 | [true,true,false],_=>qxd
 | [true,true,true],_=>qxh
 | [false,false,false,false],_=>qt4
 | [false,false,false,true],_=>qts
 | [false,false,true,false],_=>qs0
 | [false,false,true,true],_=>qtg
 | [false,true,false,false],_=>qs8
 | [false,true,false,true],_=>qto
 | [false,true,true,false],_=>qso
 | [false,true,true,true],_=>qsw
 | [true,false,false,false],_=>qss
 | [true,false,false,true],_=>qsk
 | [true,false,true,false],_=>qt8
 | [true,false,true,true],_=>qs4
 | [true,true,false,false],_=>qt0
 | [true,true,false,true],_=>qtc
 | [true,true,true,false],_=>qtk
 | [true,true,true,true],_=>qtw
 | [false,false,false,false,false],_=>qnn
 | [false,false,false,false,true],_=>ql7
 | [false,false,false,true,false],_=>qpb
 | [false,false,false,true,true],_=>qo3
 | [false,false,true,false,false],_=>qor
 | [false,false,true,false,true],_=>qmj
 | [false,false,true,true,false],_=>qmz
 | [false,false,true,true,true],_=>qof
 | [false,true,false,false,false],_=>qm3
 | [false,true,false,false,true],_=>qnf
 | [false,true,false,true,false],_=>qnz
 | [false,true,false,true,true],_=>qov
 | [false,true,true,false,false],_=>qob
 | [false,true,true,false,true],_=>qoj
 | [false,true,true,true,false],_=>qoz
 | [false,true,true,true,true],_=>qmb
 | [true,false,false,false,false],_=>qnj
 | [true,false,false,false,true],_=>ql3
 | [true,false,false,true,false],_=>qo7
 | [true,false,false,true,true],_=>qmf
 | [true,false,true,false,false],_=>qon
 | [true,false,true,false,true],_=>qmv
 | [true,false,true,true,false],_=>qnb
 | [true,false,true,true,true],_=>qmr
 | [true,true,false,false,false],_=>qmn
 | [true,true,false,false,true],_=>qnv
 | [true,true,false,true,false],_=>qn7
 | [true,true,false,true,true],_=>qm7
 | [true,true,true,false,false],_=>qlz
 | [true,true,true,false,true],_=>qnr
 | [true,true,true,true,false],_=>qn3
 | [true,true,true,true,true],_=>qlv
 | _::_::_::_::_::_::_,h=>absurd h (by simp)
theorem qx2:∀ (s:List Bool),s.length<=5->nG s
 | [],_=>n_
 | [false],_=>n_f
 | [true],_=>n_t
 | [false,false],_=>q0k
 | [false,true],_=>q0g
 | [true,false],_=>qz8
 | [true,true],_=>q0c
 | [false,false,false],_=>qxy
 | [false,false,true],_=>qxu
 | [false,true,false],_=>qxa
 | [false,true,true],_=>qw6
 | [true,false,false],_=>qxm
 | [true,false,true],_=>qxq
 | [true,true,false],_=>qxe
 | [true,true,true],_=>qxi
 | [false,false,false,false],_=>qt5
 | [false,false,false,true],_=>qtt
 | [false,false,true,false],_=>qs1
 | [false,false,true,true],_=>qth
 | [false,true,false,false],_=>qs9
 | [false,true,false,true],_=>qtp
 | [false,true,true,false],_=>qsp
 | [false,true,true,true],_=>qsx
 | [true,false,false,false],_=>qst
 | [true,false,false,true],_=>qsl
 | [true,false,true,false],_=>qt9
 | [true,false,true,true],_=>qs5
 | [true,true,false,false],_=>qt1
 | [true,true,false,true],_=>qtd
 | [true,true,true,false],_=>qtl
 | [true,true,true,true],_=>qtx
 | [false,false,false,false,false],_=>qno
 | [false,false,false,false,true],_=>ql8
 | [false,false,false,true,false],_=>qpc
 | [false,false,false,true,true],_=>qo4
 | [false,false,true,false,false],_=>qos
 | [false,false,true,false,true],_=>qmk
 | [false,false,true,true,false],_=>qm0
 | [false,false,true,true,true],_=>qog
 | [false,true,false,false,false],_=>qm4
 | [false,true,false,false,true],_=>qng
 | [false,true,false,true,false],_=>qn0
 | [false,true,false,true,true],_=>qow
 | [false,true,true,false,false],_=>qoc
 | [false,true,true,false,true],_=>qok
 | [false,true,true,true,false],_=>qo0
 | [false,true,true,true,true],_=>qmc
 | [true,false,false,false,false],_=>qnk
 | [true,false,false,false,true],_=>ql4
 | [true,false,false,true,false],_=>qo8
 | [true,false,false,true,true],_=>qmg
 | [true,false,true,false,false],_=>qoo
 | [true,false,true,false,true],_=>qmw
 | [true,false,true,true,false],_=>qnc
 | [true,false,true,true,true],_=>qms
 | [true,true,false,false,false],_=>qmo
 | [true,true,false,false,true],_=>qnw
 | [true,true,false,true,false],_=>qn8
 | [true,true,false,true,true],_=>qm8
 | [true,true,true,false,false],_=>ql0
 | [true,true,true,false,true],_=>qns
 | [true,true,true,true,false],_=>qn4
 | [true,true,true,true,true],_=>qlw
 | _::_::_::_::_::_::_,h=>absurd h (by simp)
theorem qx3:∀ (s:List Bool),s.length<=5->iG s
 | [],_=>i_
 | [false],_=>i_f
 | [true],_=>i_t
 | [false,false],_=>q0l
 | [false,true],_=>q0h
 | [true,false],_=>qz9
 | [true,true],_=>q0d
 | [false,false,false],_=>qxz
 | [false,false,true],_=>qxv
 | [false,true,false],_=>qxb
 | [false,true,true],_=>qw7
 | [true,false,false],_=>qxn
 | [true,false,true],_=>qxr
 | [true,true,false],_=>qxf
 | [true,true,true],_=>qxj
 | [false,false,false,false],_=>qt6
 | [false,false,false,true],_=>qtu
 | [false,false,true,false],_=>qs2
 | [false,false,true,true],_=>qti
 | [false,true,false,false],_=>qta
 | [false,true,false,true],_=>qtq
 | [false,true,true,false],_=>qsq
 | [false,true,true,true],_=>qsy
 | [true,false,false,false],_=>qsu
 | [true,false,false,true],_=>qsm
 | [true,false,true,false],_=>qua
 | [true,false,true,true],_=>qs6
 | [true,true,false,false],_=>qt2
 | [true,true,false,true],_=>qte
 | [true,true,true,false],_=>qtm
 | [true,true,true,true],_=>qty
 | [false,false,false,false,false],_=>qnp
 | [false,false,false,false,true],_=>ql9
 | [false,false,false,true,false],_=>qpd
 | [false,false,false,true,true],_=>qo5
 | [false,false,true,false,false],_=>qot
 | [false,false,true,false,true],_=>qml
 | [false,false,true,true,false],_=>qm1
 | [false,false,true,true,true],_=>qoh
 | [false,true,false,false,false],_=>qm5
 | [false,true,false,false,true],_=>qnh
 | [false,true,false,true,false],_=>qn1
 | [false,true,false,true,true],_=>qox
 | [false,true,true,false,false],_=>qod
 | [false,true,true,false,true],_=>qol
 | [false,true,true,true,false],_=>qo1
 | [false,true,true,true,true],_=>qmd
 | [true,false,false,false,false],_=>qnl
 | [true,false,false,false,true],_=>ql5
 | [true,false,false,true,false],_=>qo9
 | [true,false,false,true,true],_=>qmh
 | [true,false,true,false,false],_=>qop
 | [true,false,true,false,true],_=>qmx
 | [true,false,true,true,false],_=>qnd
 | [true,false,true,true,true],_=>qmt
 | [true,true,false,false,false],_=>qmp
 | [true,true,false,false,true],_=>qnx
 | [true,true,false,true,false],_=>qn9
 | [true,true,false,true,true],_=>qm9
 | [true,true,true,false,false],_=>ql1
 | [true,true,true,false,true],_=>qnt
 | [true,true,true,true,false],_=>qn5
 | [true,true,true,true,true],_=>qlx
 | _::_::_::_::_::_::_,h=>absurd h (by simp)
theorem qx4:∀ (s:List Bool),s.length<=5->tG s
 | [],_=>t_
 | [false],_=>t_f
 | [true],_=>t_t
 | [false,false],_=>q0m
 | [false,true],_=>q0i
 | [true,false],_=>q0a
 | [true,true],_=>q0e
 | [false,false,false],_=>qx0
 | [false,false,true],_=>qxw
 | [false,true,false],_=>qxc
 | [false,true,true],_=>qw8
 | [true,false,false],_=>qxo
 | [true,false,true],_=>qxs
 | [true,true,false],_=>qxg
 | [true,true,true],_=>qxk
 | [false,false,false,false],_=>qt7
 | [false,false,false,true],_=>qtv
 | [false,false,true,false],_=>qs3
 | [false,false,true,true],_=>qtj
 | [false,true,false,false],_=>qtb
 | [false,true,false,true],_=>qtr
 | [false,true,true,false],_=>qsr
 | [false,true,true,true],_=>qsz
 | [true,false,false,false],_=>qsv
 | [true,false,false,true],_=>qsn
 | [true,false,true,false],_=>qub
 | [true,false,true,true],_=>qs7
 | [true,true,false,false],_=>qt3
 | [true,true,false,true],_=>qtf
 | [true,true,true,false],_=>qtn
 | [true,true,true,true],_=>qtz
 | [false,false,false,false,false],_=>qnq
 | [false,false,false,false,true],_=>qma
 | [false,false,false,true,false],_=>qpe
 | [false,false,false,true,true],_=>qo6
 | [false,false,true,false,false],_=>qou
 | [false,false,true,false,true],_=>qmm
 | [false,false,true,true,false],_=>qm2
 | [false,false,true,true,true],_=>qoi
 | [false,true,false,false,false],_=>qm6
 | [false,true,false,false,true],_=>qni
 | [false,true,false,true,false],_=>qn2
 | [false,true,false,true,true],_=>qoy
 | [false,true,true,false,false],_=>qoe
 | [false,true,true,false,true],_=>qom
 | [false,true,true,true,false],_=>qo2
 | [false,true,true,true,true],_=>qme
 | [true,false,false,false,false],_=>qnm
 | [true,false,false,false,true],_=>ql6
 | [true,false,false,true,false],_=>qpa
 | [true,false,false,true,true],_=>qmi
 | [true,false,true,false,false],_=>qoq
 | [true,false,true,false,true],_=>qmy
 | [true,false,true,true,false],_=>qne
 | [true,false,true,true,true],_=>qmu
 | [true,true,false,false,false],_=>qmq
 | [true,true,false,false,true],_=>qny
 | [true,true,false,true,false],_=>qoa
 | [true,true,false,true,true],_=>qna
 | [true,true,true,false,false],_=>ql2
 | [true,true,true,false,true],_=>qnu
 | [true,true,true,true,false],_=>qn6
 | [true,true,true,true,true],_=>qly
 | _::_::_::_::_::_::_,h=>absurd h (by simp)
theorem j07 {α β:Type} (g:α->β):∀ (l:List α),(l.map (fun v=>(v,g v))).map (·.1)=l
 | []=>rfl
 | a::l=>congrArg (a::·) (j07 g l)
theorem qe8 (b i:Nat) (ops:List Ms.Opd):(evO b i ops).map (·.1)=dfO ops:=j07 _ _
theorem j36 (b:Nat):∀ (l:List Ms.Ins) (i:Nat),(evI b i l).map (·.1)=(l.map jbm).flatten
 | [],i=>rfl
 | x::l,i=>by
  unfold evI
  rw[f27,qe8,j36 b l]
  rfl
theorem jvn:∀ (l:List Blk) (k:Nat),(evL k l).map (·.1)=jcs l
 | [],k=>rfl
 | b::l,k=>by
  unfold evL evB evP
  rw[f27,f27,j36,jvn l,j07]
  simp[jcs,jch]
theorem qbr {b:Nat} {y:Ms.Ins} (hv:v∈jbm y):∀ {l:List Ms.Ins} {i j:Nat},l[i]?=some y->(v,(b,((j+i:Nat):Int)))∈evI b j l
 | [],i,j,h=>by simp at h
 | x::l,0,j,h=>by
  simp only[f1e,Option.some.injEq] at h
  subst h
  unfold evI
  exact f05 _ (f07.2 ⟨v,hv,rfl⟩)
 | x::l,i+1,j,h=>by
  simp only[f2i] at h
  unfold evI
  have:=qbr (b:=b) hv (j:=j+1) h
  rw[show j+1+i=j+(i+1) by omega] at this
  exact f0z _ this
theorem qbs {b:Nat}:∀ {l:List Blk} {k:Nat} {i:Nat},b=k+i->j05 l v i n->(v,(b,n))∈evL k l
 | [],k,i,e,h=>by
  obtain⟨x,h1,_⟩:=h
  simp at h1
 | x::l,k,0,e,h=>by
  obtain⟨y,h1,h2⟩:=h
  simp only[f1e,Option.some.injEq] at h1
  subst h1
  rw[f1l] at e
  subst e
  unfold evL evB
  refine f05 _ ?_
  rcases h2 with⟨rfl,h2⟩ | ⟨i,y,rfl,h2,h3⟩
  .exact f05 _ (f07.2 ⟨v,h2,rfl⟩)
  .have:=qbr (b:=b) h3 (j:=0) h2
   rw[f0y] at this
   exact f0z _ this
 | x::l,k,i+1,e,h=>by
  unfold evL
  refine f0z _ (qbs (i:=i) (by omega) ?_)
  obtain⟨y,h1,h2⟩:=h
  exact⟨y,by simpa using h1,h2⟩
theorem qbt:∀ (l:List (Nat×(Nat×Int))) (T:List (Nat×Int)),v∉l.map (·.1)->(spF T l)[v]?=T[v]?
 | [],T,_=>rfl
 | e::l,T,h=>by
  simp only[f2r,f0e,not_or] at h
  show(spF (T.set e.1 e.2) l)[v]?=_
  rw[qbt l _ h.2,f10 (fun x=>h.1 x.symm)]
theorem qbu {p:Nat×Int}:∀ (l:List (Nat×(Nat×Int))) (T:List (Nat×Int)),(l.map (·.1)).Nodup->v<T.length->(v,p)∈l->(spF T l)[v]?=some p
 | [],T,_,_,h=>by cases h
 | e::l,T,hd,hv,h=>by
  rw[f2r,f0u] at hd
  show(spF (T.set e.1 e.2) l)[v]?=_
  rcases f0e.1 h with rfl | h
  .rw [qbt l _ hd.1,List.getElem?_set_self hv]
  .exact qbu l _ hd.2 (by rw[f1t];exact hv) h
theorem qe9 {f:Fc} (hm:(jcs f.blocks).Perm (List.range f.values.length)) {b:Nat} (h:j05 f.blocks v b n):(jej f)[v]?=some (b,n):=by
 have hmem:=qbs (k:=0) (i:=b) (f0y b).symm h
 have hk:v∈jcs f.blocks:=by rw[←jvn f.blocks 0];exact f07.2 ⟨_,hmem,rfl⟩
 have hv:v<f.values.length:=f2f.1 (hm.mem_iff.1 hk)
 unfold jej
 exact qbu _ _ (by rw[jvn];exact hm.nodup_iff.2 List.nodup_range) (by rw[f3d];exact hv) hmem
theorem jq2.kt {f:Fc} (hm:(jcs f.blocks).Perm (List.range f.values.length)) {k i:Nat} (h:jq2 idom f.blocks v k i):KT idom (jej f) v k i:=by
 obtain⟨b,n,h1,h2⟩:=h
 exact⟨(b,n),qe9 hm h1,h2⟩
def gPs (l:List Blk) (k:Nat):SV:=jae jal (l.getD k jgq).params
def gIs (l:List Blk) (k:Nat):SV:=jae jco (l.getD k jgq).instrs
def gAs (l:List Blk) (k j:Nat):SV:=jae jal ((l.getD k jgq).edges.getD j ⟨0,[]⟩).args
theorem qbv (a:Nat->SV):∀ (r p:List Ms.Edg),(∀ j,a j=jae jal ((p++r).getD j ⟨0,[]⟩).args)->qu5 a p.length (r.map (·.block))=r.map jfj
 | [],p,h=>rfl
 | e::r,p,h=>by
  show[si e.block,a p.length]::qu5 a (p.length+1) (r.map (·.block))=jfj e::r.map jfj
  have h1:a p.length=jae jal e.args:=by
   rw[h,f0d,f0t (f0f _)];simp
  have h2:=qbv a r (p++[e]) (fun j=>by rw[h];simp)
  rw[f02] at h2
  rw[h1]
  exact congrArg _ h2
theorem qpi (a:Nat->SV) (l:List Ms.Edg) (h:∀ j,a j=jae jal (l.getD j ⟨0,[]⟩).args):qu6 a (l.map (·.block))=jae jfj l:=by
 cases l with
 | nil=>rfl
 | cons e r =>
  have:=qbv a (e::r) [] (by simpa using h)
  exact congrArg SV.lst this
theorem j37 (l:List Blk):∀ (r p:List Blk),p++r=l->qbb (gPs l) (gIs l) (gAs l) p.length (grL r)=r.map jaw
 | [],p,h=>rfl
 | b::r,p,h=>by
  have hb:l.getD p.length jgq=b:=by rw[←h,f0d,f0t (f0f _)];simp
  show[gPs l p.length,gIs l p.length,qu6 (gAs l p.length) (qhj b)]::qbb (gPs l) (gIs l) (gAs l) (p.length+1) (grL r)=jaw b::r.map jaw
  have h1:qu6 (gAs l p.length) (qhj b)=jae jfj b.edges:=qpi _ _ (fun j=>by unfold gAs;rw[hb])
  have h2:=j37 l r (p++[b]) (by rw[←h];simp)
  rw[f02] at h2
  rw[h1]
  unfold gPs gIs
  rw[hb]
  exact congrArg _ h2
theorem jvo {f:Fc} (hne:f.blocks≠[]):[jae jal f.values,jae jaw f.blocks]=qu7 (grL f.blocks) (jae jal f.values) (gPs f.blocks) (gIs f.blocks) (gAs f.blocks):=by
 have h:=j37 f.blocks f.blocks [] rfl
 unfold qu7
 rw[show qbb (gPs f.blocks) (gIs f.blocks) (gAs f.blocks) 0 (grL f.blocks)=f.blocks.map jaw from h]
 cases e:f.blocks with
 | nil=>exact absurd e hne
 | cons b r=>rfl
section
variable {f:Fc} {s:List Bool} {h:Hp} {Q:AV->Hp->Prop}
theorem qfa (hs:s.length<=5) (hg:grL f.blocks=gS s) (hne:f.blocks≠[]):jcj F8 34 [.agg [jae jal f.values,jae jaw f.blocks]] h=some (.s (jae jal (jk1 s 0)),h) :=
 jbf rfl (by simp only[jat,ja0,ja7,jb0,ja1,ja8,ja5,jbj,ja9,jbg,if_true]) (by rw[jvo hne,hg];exact jkm (qx1 s hs _ _ _ _))
theorem qpj (hs:s.length<=5) (hg:grL f.blocks=gS s) (hne:f.blocks≠[]):jcj F8 35 [.agg [jae jal f.values,jae jaw f.blocks]] h=some (.s (jae jvi (jq1 (gS s))),h) :=
 jbf rfl (by simp only[jat,ja0,ja7,jb0,ja1,ja8,ja5,jbj,ja9,jbg,if_true]) (by rw[jvo hne,hg];exact jkm (qx2 s hs _ _ _ _))
theorem qfb (hs:s.length<=5) (hg:grL f.blocks=gS s) (hne:f.blocks≠[]):jcj F8 37 [.agg [jae jal f.values,jae jaw f.blocks],.s (jae jal (jk1 s 0))] h=some (.s (jae jkl (jed s)),h) :=
 jbf rfl (by simp only[jat,ja0,ja7,jb0,ja1,ja8,ja5,jbj,ja9,jbg,if_true]) (by rw[jvo hne,hg];exact jkm (qx3 s hs _ _ _ _))
theorem qpk (hs:s.length<=5) (hg:grL f.blocks=gS s) (hne:f.blocks≠[]):jcj F8 25 [.agg [jae jal f.values,jae jaw f.blocks]] h=some (.agg (j5s (jk1 s 0) (jed s) (qll s)),h) :=
 jbf rfl (by simp only[jat,ja0,ja7,jb0,ja1,ja8,ja5,jbj,ja9,jbg,if_true]) (by rw[jvo hne,hg];exact jkm (qx4 s hs _ _ _ _))
end
def shp:Nat->List (List Bool)
 | 0=>[[]]
 | n+1=>[]::((shp n).map (false::·)++(shp n).map (true::·))
theorem qbw:∀ (n:Nat) (s:List Bool),s.length<=n->s∈shp n
 | 0,s,h=>by
  have:=f1r (Nat.le_zero.1 h)
  subst this;exact f0k.2 rfl
 | n+1,[],h=>by unfold shp;simp
 | n+1,b::s,h=>by
  have:=qbw n s (by simpa using h)
  unfold shp
  refine f06 _ (f0g.2 ?_)
  cases b
  .exact .inl (f07.2 ⟨s,this,rfl⟩)
  .exact .inr (f07.2 ⟨s,this,rfl⟩)
theorem qbx {P:List Bool->Bool} (h:(shp 5).all P=true) {s:List Bool} (hs:s.length<=5):P s=true:=f20.1 h s (qbw 5 s hs)
def qy3 (g:List (List Nat)):Bool:=g.all (fun es=>es.length<=1||es.all (fun t=>((jq1 g).getD t [0,0]).length<=1))
theorem qfc:(shp 5).all (fun s=>qy3 (gS s))=true:=by kernel_rfl
theorem jvp:∀ (s:List Bool) (c:Nat),(jk1 s c).length=1+3*s.length
 | [],c=>rfl
 | false::s,c=>by simp[jk1,jvp s];omega
 | true::s,c=>by simp[jk1,jvp s];omega
structure FlOk (m:Nat×Nat) (f:Fc) (s:List Bool):Prop where
 k:FcOk m f
 on:jp6 f=0
 hs:s.length<=5
 hg:grL f.blocks=gS s
 hv:f.values≠[]
 us:UsOk (jed s) f
theorem FlOk.hne {m:Nat×Nat} {f:Fc} {s:List Bool} (o:FlOk m f s):f.blocks≠[]:=f1g.1 (by have:=o.k.nb;omega)
theorem FlOk.len {m:Nat×Nat} {f:Fc} {s:List Bool} (o:FlOk m f s):f.blocks.length=1+3*s.length:=by rw[←jd9,o.hg,qbd]
theorem qby {m:Nat×Nat} (m1:2<=m.1/\m.1<=10) (m2:2<=m.2/\m.2<=10) (l:List Pc):∃ s,FlOk m (je9 m l) s/\(jcs (je9 m l).blocks).Perm (List.range (je9 m l).values.length) /\
 (∀ (k i:Nat) (b:Blk) (x:Ms.Ins) (o:Ms.Opd),(je9 m l).blocks[k]?=some b->b.instrs[i]?=some x->o∈x.ops->o.kind=1->jq2 (jed s) (je9 m l).blocks o.value k i):=by
 obtain⟨k,kp,_⟩:=j2x m1 m2 l
 obtain⟨s,h1,h2,h3,h4⟩:=j5t m1 m2 l
 have hv:(je9 m l).values≠[]:=by
  obtain⟨b,g,c,n,_⟩:=((jkh m1 m2).pieces (l.take 24)).bd.lay ⟨0,0,1,0,0,0,3⟩
  obtain⟨_,_,_,_,_,_,_,_,cs,e1,e2,_⟩:=qkg ((jkh m1 m2).pieces (l.take 24)).v ⟨0,0,1,0,0,0,3⟩
  have:(je9 m l).values=(jcl ((l.take 24).foldl jbs (jbp m)) ⟨0,0,1,0,0,0,3⟩).values:=rfl
  rw[this,e2]
  rcases e1 with rfl | rfl<;>simp
 refine⟨s,⟨k,qes kp,h1,h2,hv,⟨by have:=k.nb;omega,fun b hb=>by have:=k.blk b hb;omega,fun a i b x hb hx=>⟨(k.ins b (f0b hb) x (f0b hx)).nops,fun o ho hk=>jq2.kt kp (h3 a i b x o hb hx ho hk)⟩,fun a b e hb he=>⟨?_,fun v hv=>jq2.kt kp (h4 a b e v hb he hv)⟩⟩⟩,kp,h3⟩
 obtain⟨_,_,t,h5,h6,_⟩:=k.edg b (f0b hb) e he
 have h7:=(k.blk t (f0b h5)).1
 have:=congrArg List.length h6
 simp only[f1b] at this
 omega
def S10 (f:FuncId):Bool:=Nat.beq f 36
def F10:Fns:=PX S10 F9
theorem qx5 {A:Nat->Int}:Env Try.prog A tys F10:=jfw q0o
theorem qy4 {f:FuncId} (h1:S1 f=false) (h2:Nat.beq f jfa.f=false) (h3:S3 f=false) (h4:S4 f=false) (h5:S5 f=false) (h6:S6 f=false) (h7:S7 f=false) (h8:S8 f=false) (h9:S9 f=false) (h10:S10 f=false) {h:Hp}:jcj F10 f vs h=none:=(jbb h10).trans (no9 h1 h2 h3 h4 h5 h6 h7 h8 h9)
section
variable {h:Hp} {m:Nat×Nat} {f:Fc} {s:List Bool} {Q:AV->Hp->Prop}
theorem qp5 (h9:S9 g=false) (h10:S10 g=false):jcj F10 g vs h=jcj F8 g vs h:=(jbb h10).trans (jbb h9)
theorem qfd (o:FlOk m f s) (m1:2<=m.1/\m.1<=10) (m2:2<=m.2/\m.2<=10):WC F10 33 [.agg [jae jal f.values,jae jaw f.blocks],.agg [si m.1,si m.2]] h Q=Q (vi 0) h :=
 jaq ((qp5 rfl rfl).trans ((jbb rfl).trans (by rw[qr5 o.k m1 m2,o.on];rfl)))
theorem jse (o:FlOk m f s):WC F10 34 [.agg [jae jal f.values,jae jaw f.blocks]] h Q=Q (.s (jae jal (jk1 s 0))) h:=jaq ((qp5 rfl rfl).trans (qfa o.hs o.hg o.hne))
theorem qbz (o:FlOk m f s):WC F10 35 [.agg [jae jal f.values,jae jaw f.blocks]] h Q=Q (.s (jae jvi (jq1 (gS s)))) h:=jaq ((qp5 rfl rfl).trans (qpj o.hs o.hg o.hne))
theorem j5u (o:FlOk m f s):WC F10 37 [.agg [jae jal f.values,jae jaw f.blocks],.s (jae jal (jk1 s 0))] h Q=Q (.s (jae jkl (jed s))) h:=jaq ((qp5 rfl rfl).trans (qfb o.hs o.hg o.hne))
theorem qfe (o:FlOk m f s):WC F10 36 [.agg [jae jal f.values,jae jaw f.blocks],.s (jae jkl (jed s))] h Q=Q (vb true) h :=
 jaq (jbf rfl (by simp only[jat,ja0,ja7,jb0,ja1,ja8,ja5,jbj,ja9,jbg,if_true]) (qph jdo o.us (by have:=o.k.nv;omega) o.hv (qab o.k)))
end
theorem FlOk.pred {m:Nat×Nat} {f:Fc} {s:List Bool} (o:FlOk m f s) {b:Blk} (hb:b∈f.blocks) (h:1<b.edges.length) {e:Ms.Edg} (he:e∈b.edges):∃ pl,(jq1 (gS s))[e.block]?=some pl/\pl.length<=1:=by
 have h1:=qbx qfc o.hs
 unfold qy3 at h1
 rw[f20] at h1
 have h2:=h1 (qhj b) (by rw[←o.hg];exact f07.2 ⟨b,hb,rfl⟩)
 simp only[f15,decide_eq_true_eq,f20] at h2
 have h3:=h2.resolve_left (by unfold qhj;rw[f1b];omega) e.block (f07.2 ⟨e,he,rfl⟩)
 rw[f0d] at h3
 cases hq:(jq1 (gS s))[e.block]? with
 | none=>rw[hq] at h3;simp at h3
 | some pl=>rw[hq] at h3;exact⟨pl,rfl,h3⟩
theorem qb0 {m:Nat×Nat} {f:Fc} {s:List Bool} (o:FlOk m f s) {b:Blk} (hb:b∈f.blocks) {Q:Ex->St->Prop} :
 ∀ (d j:Nat) (_:j+d=b.edges.length) {hi:Hp} (_:Ok hi) (_:bB<hi.next) (_:hi.get bB=some (.arr [jae jal b.params,jae jco b.instrs,jae jfj b.edges] 42)) {x4 x5 x8:AV}
  (hQ:∀ hj x4 x5 x8,Ok hj->hi.next<=hj.next->(∀ n,n<hi.next->hj.get n=hi.get n)->Q (.exit 2) (.mk [x0,x1,x2,x3,x4,x5,.s (jae jvi (jq1 (gS s))),.s (jae jfj b.edges),x8,vi b.edges.length,vi b.edges.length,.s (.ptr bB 0),x12,x13,x14,x15,x16,x17,x18,x19,x20] hj)),
  W F10 jkt.loop (.mk [x0,x1,x2,x3,x4,x5,.s (jae jvi (jq1 (gS s))),.s (jae jfj b.edges),x8,vi b.edges.length,vi j,.s (.ptr bB 0),x12,x13,x14,x15,x16,x17,x18,x19,x20] hi) Q
 | 0,j,hd,hi,ok,hB,xB,x4,x5,x8,hQ=>by
  obtain rfl:j=b.edges.length:=by omega
  rw[jah]
  unfold jkt
  simp(disch:=first|omega|rfl) only[go_sem,f0n]
  exact hQ hi _ _ _ ok (f0f _) (fun _ _=>rfl)
 | d+1,j,hd,hi,ok,hB,xB,x4,x5,x8,hQ=>by
  have hlt:(j:Int)<(b.edges.length:Int):=by omega
  have hne:=(o.k.blk b hb).2.2
  obtain⟨e,hio⟩:∃ y,b.edges[j]?=some y:=⟨_,f0a (by omega)⟩
  have hix:=jag (enc:=jfj) (size:=2) hio rfl
  have hs:(j:Int)+1=((j+1:Nat):Int):=by omega
  obtain⟨hA,eA,okA,nA,xA,gA⟩:=jbn ok [.int .i64 0,.nilSlice] (jfj e) 56
  have yB:=(gA _ hB).trans xB
  have l2:=jaf (enc:=jfj) (l:=b.edges)
  unfold jfj at xA eA
  rw[jah]
  unfold jkt jyi
  by_cases h1:1<b.edges.length
  .have c1:(1<(b.edges.length:Int))=True:=by simp;omega
   obtain⟨pl,h2,h3⟩:=o.pred hb h1 (f0b hio)
   have hxp:=jag (enc:=jvi) (size:=1) h2 rfl
   have l3:=jaf (enc:=jal) (l:=pl)
   have c2:(1<(pl.length:Int))=False:=by simp;omega
   simp(disch:=first|omega|rfl) only[go_sem,jab,eq_true hlt,hix,jfj,eA,xA,yB,l2,c1,hxp,jvi,l3,c2,hs]
   exact qb0 o hb d (j+1) (by omega) okA (by omega) yB (fun hj x4 x5 x8 ok' n g=>hQ hj x4 x5 x8 ok' (by omega) (fun q hq=>(g q (by omega)).trans (gA q hq)))
  .have c1:(1<(b.edges.length:Int))=False:=by simp;omega
   simp(disch:=first|omega|rfl) only[go_sem,jab,eq_true hlt,hix,jfj,eA,xA,yB,l2,c1,hs]
   exact qb0 o hb d (j+1) (by omega) okA (by omega) yB (fun hj x4 x5 x8 ok' n g=>hQ hj x4 x5 x8 ok' (by omega) (fun q hq=>(g q (by omega)).trans (gA q hq)))
theorem qhw {m:Nat×Nat} {f:Fc} {s:List Bool} (o:FlOk m f s) {bF:Nat} {Q:Ex->St->Prop} :
 ∀ (d j:Nat) (_:j+d=f.blocks.length) {hi:Hp} (_:Ok hi) (_:bF<hi.next) {x4 x5 x7 x8 x9 x10 x11 x13:AV}
  (hQ:∀ hj x4 x5 x7 x8 x9 x10 x11 x13,Ok hj->hi.next<=hj.next->hj.get bF=hi.get bF->Q (.exit 0) (.mk [x0,x1,x2,x3,x4,x5,.s (jae jvi (jq1 (gS s))),x7,x8,x9,x10,x11,.s (jae jaw f.blocks),x13,vi f.blocks.length,vi f.blocks.length,x16,x17,x18,x19,.s (.ptr bF 0)] hj)),
  W F10 jku.loop (.mk [x0,x1,x2,x3,x4,x5,.s (jae jvi (jq1 (gS s))),x7,x8,x9,x10,x11,.s (jae jaw f.blocks),x13,vi f.blocks.length,vi j,x16,x17,x18,x19,.s (.ptr bF 0)] hi) Q
 | 0,j,hd,hi,ok,hB,x4,x5,x7,x8,x9,x10,x11,x13,hQ=>by
  obtain rfl:j=f.blocks.length:=by omega
  rw[jah]
  unfold jku
  simp(disch:=first|omega|rfl) only[go_sem,f0n]
  exact hQ hi _ _ _ _ _ _ _ _ ok (f0f _) rfl
 | d+1,j,hd,hi,ok,hB,x4,x5,x7,x8,x9,x10,x11,x13,hQ=>by
  have nb:=o.k.nb
  have hlt:(j:Int)<(f.blocks.length:Int):=by omega
  obtain⟨b,hio⟩:∃ y,f.blocks[j]?=some y:=⟨_,f0a (by omega)⟩
  have hbm:=f0b hio
  have hix:=jag (enc:=jaw) (size:=3) hio rfl
  have hs:(j:Int)+1=((j+1:Nat):Int):=by omega
  obtain⟨hA,eA,okA,nA,xA,gA⟩:=jbn ok [.nilSlice,.nilSlice,.nilSlice] (jaw b) 42
  have l2:=jaf (enc:=jfj) (l:=b.edges)
  unfold jaw at xA eA
  rw[jah]
  unfold jku jyj
  simp(disch:=first|omega|rfl) only[go_sem,jab,eq_true hlt,hix,jaw,eA,xA,l2]
  refine qb0 o hbm b.edges.length 0 (by omega) okA (by omega) xA (fun hj x4 x5 x8 ok' n g=>?_)
  simp(disch:=first|omega|rfl) only[go_sem,jab,hs]
  exact qhw o d (j+1) (by omega) ok' (by omega) (fun hk x4 x5 x7 x8 x9 x10 x11 x13 o' n' g'=>hQ hk x4 x5 x7 x8 x9 x10 x11 x13 o' (by omega) (g'.trans ((g _ (by omega)).trans (gA _ hB))))
theorem qpl {h:Hp} (ok:Ok h) {m:Nat×Nat} {f:Fc} {s:List Bool} (o:FlOk m f s) (m1:2<=m.1/\m.1<=10) (m2:2<=m.2/\m.2<=10):WC F10 24 [.agg [jae jal f.values,jae jaw f.blocks],.agg [si m.1,si m.2]] h (fun v h'=>∃ d,jgd true h' d v=some (vi 0)):=by
 refine ja2 (qy4 rfl rfl rfl rfl rfl rfl rfl rfl rfl rfl) qls rfl ?_
 unfold j35
 obtain⟨hA,eA,okA,nA,xA,gA⟩:=jdy ok [jae jal f.values,jae jaw f.blocks] 30
 obtain⟨hB,eB,okB,nB,xB,gB⟩:=jdy okA [si m.1,si m.2] 25
 have yA:=(gB _ (by omega)).trans xA
 rw[nA] at xB
 have l2:=jaf (enc:=jaw) (l:=f.blocks)
 have l3:=jaf (enc:=jal) (l:=jk1 s 0)
 have c1:(((jk1 s 0).length:Int)<(f.blocks.length:Int))=False:=eq_false (by rw[jvp,o.len];omega)
 have hh:(hB.next<=h.next/\h.next<hB.next)=False:=eq_false (by omega)
 simp(disch:=first|omega|rfl) only[go_sem,eA,eB,nA,yA,xB,qfd o m1 m2]
 unfold jyn jyh
 simp(disch:=first|omega|rfl) only[go_sem,yA,xB,jse o,l3,l2,c1,hh]
 unfold jym
 simp(disch:=first|omega|rfl) only[go_sem,yA,qbz o,l2]
 refine qhw o f.blocks.length 0 (by omega) okB (by omega) (fun hj x4 x5 x7 x8 x9 x10 x11 x13 o' n g=>?_)
 have zA:=g.trans yA
 have hh:(hj.next<=h.next/\h.next<hj.next)=False:=eq_false (by omega)
 unfold jyk
 simp(disch:=first|omega|rfl) only[go_sem,zA,jse o,j5u o,qfe o,hh]
 unfold jyl
 simp(disch:=first|omega|rfl) only[go_sem]
 exact⟨1,rfl⟩
def S11 (f:FuncId):Bool:=Nat.beq f 24
def F11:Fns:=PX S11 F10
theorem qx6 {A:Nat->Int}:Env Try.prog A tys F11:=jfw qx5
theorem qy5 {f:FuncId} (h1:S1 f=false) (h2:Nat.beq f jfa.f=false) (h3:S3 f=false) (h4:S4 f=false) (h5:S5 f=false) (h6:S6 f=false) (h7:S7 f=false) (h8:S8 f=false) (h9:S9 f=false) (h10:S10 f=false) (h11:S11 f=false) {h:Hp}:jcj F11 f vs h=none:=(jbb h11).trans (qy4 h1 h2 h3 h4 h5 h6 h7 h8 h9 h10)
section
variable {h:Hp} {m:Nat×Nat} {f:Fc} {s:List Bool} {Q:AV->Hp->Prop}
theorem qpm (o:FlOk m f s) (m1:2<=m.1/\m.1<=10) (m2:2<=m.2/\m.2<=10):jcj F11 24 [.agg [jae jal f.values,jae jaw f.blocks],.agg [si m.1,si m.2]] h=some (vi 0,h):=jbf rfl (by simp only[jat,ja0,ja7,jb0,ja1,ja8,ja5,jbj,ja9,jbg,if_true]) (qpl jdo o m1 m2)
theorem qb1 (o:FlOk m f s):WC F11 25 [.agg [jae jal f.values,jae jaw f.blocks]] h Q=Q (.agg (j5s (jk1 s 0) (jed s) (qll s))) h :=
 jaq ((jbb rfl).trans ((qp5 rfl rfl).trans (qpk o.hs o.hg o.hne)))
theorem qff (o:FlOk m f s) (m1:2<=m.1/\m.1<=10) (m2:2<=m.2/\m.2<=10):WC F11 24 [.agg [jae jal f.values,jae jaw f.blocks],.agg [si m.1,si m.2]] h Q=Q (vi 0) h:=jaq (qpm o m1 m2)
end
def qb2 (s:List Bool):AV:=.tup [(true,j5s (jk1 s 0) (jed s) (qll s)),(false,[si 0])]
theorem jvq {α:Type} {h:Hp} {d:Nat} {enc:α->List SV} {l:List α}:jhh true h (d+1) (jae enc l)=some (jae enc l):=by cases l<;>rfl
theorem qfg {h:Hp} {s:List Bool}:jgd true h 2 (.tup [(true,[jae jal (jk1 s 0),jae jkl (jed s),jae jal (qll s)]),(false,[.int .i64 0])])=some (qb2 s):=by
 show ob (ob (jhz (jhh true h 2) [jae jal (jk1 s 0),jae jkl (jed s),jae jal (qll s)]) (fun x=>ob (qdh (jhh true h 2) [(false,[.int .i64 0])]) (fun r=>some ((true,x)::r)))) (fun y=>some (AV.tup y))=_
 rw[jcm jvq (jcm jvq (jug jvq))]
 rfl
theorem qpn {h:Hp} (ok:Ok h) {m:Nat×Nat} {f:Fc} {s:List Bool} (o:FlOk m f s) (m1:2<=m.1/\m.1<=10) (m2:2<=m.2/\m.2<=10):WC F11 12 [.agg [jae jal f.values,jae jaw f.blocks],.agg [si m.1,si m.2]] h (fun v h'=>∃ d,jgd true h' d v=some (qb2 s)):=by
 refine ja2 (qy5 rfl rfl rfl rfl rfl rfl rfl rfl rfl rfl rfl) qw4 rfl ?_
 unfold qho
 obtain⟨hA,eA,okA,nA,xA,gA⟩:=jdy ok [jae jal f.values,jae jaw f.blocks] 30
 obtain⟨hB,eB,okB,nB,xB,gB⟩:=jdy okA [si m.1,si m.2] 25
 obtain⟨hC,eC,okC,nC,xC,gC⟩:=jdy okB [.nilSlice,.nilSlice,.nilSlice] 36
 have yA:=(gC _ (by omega)).trans ((gB _ (by omega)).trans xA)
 have yB:=(gC _ (by omega)).trans xB
 have nb:hB.next=h.next+2:=by omega
 rw[nA] at yB
 rw[nb] at xC
 simp(disch:=first|omega|rfl) only[go_sem,eA,eB,eC,nA,nb,yA,yB,qff o m1 m2]
 unfold qbl
 simp(disch:=first|omega|rfl) only[go_sem,yA,qb1 o,j5s,xC]
 exact⟨2,qfg⟩
def S12 (f:FuncId):Bool:=Nat.beq f 12
def F12:Fns:=PX S12 F11
theorem qx7 {A:Nat->Int}:Env Try.prog A tys F12:=jfw qx6
theorem q0p {f:FuncId} (h1:S1 f=false) (h2:Nat.beq f jfa.f=false) (h3:S3 f=false) (h4:S4 f=false) (h5:S5 f=false) (h6:S6 f=false) (h7:S7 f=false) (h8:S8 f=false) (h9:S9 f=false) (h10:S10 f=false) (h11:S11 f=false) (h12:S12 f=false) {h:Hp}:jcj F12 f vs h=none:=(jbb h12).trans (qy5 h1 h2 h3 h4 h5 h6 h7 h8 h9 h10 h11)
section
variable {h:Hp} {m:Nat×Nat} {f:Fc} {s:List Bool} {Q:AV->Hp->Prop}
theorem qfh (h4:S4 g=false) (h5:S5 g=false) (h6:S6 g=false) (h7:S7 g=false) (h8:S8 g=false) (h9:S9 g=false) (h10:S10 g=false) (h11:S11 g=false) (h12:S12 g=false):jcj F12 g vs h=jcj F3 g vs h :=
 (jbb h12).trans ((jbb h11).trans ((qp5 h9 h10).trans ((jbb h8).trans (qz6 h4 h5 h6 h7))))
end
end
end Go.Proofs.Ytehhjbfmjdlcjaa.Ev
