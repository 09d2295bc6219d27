/- Is each value made where it is used? What the code tells. -/
import Derived.Test.YtkeenpohacdanaaUe
import Derived.Test.YtkeenpohacdanaaGT1
import Derived.Test.YtkeenpohacdanaaGT3
import Derived.Test.YtkeenpohacdanaaGT5
import Derived.Test.YtkeenpohacdanaaGT7
namespace Go.Proofs.Ytkeenpohacdanaa.Ev
noncomputable section
open Go Go.RowKit Go.Proofs.Ytkeenpohacdanaa.Ms
attribute [local go_sem] Int.reduceToNat reduceCtorEq Nat.reduceAdd Nat.reduceMul Nat.reduceEqDiff Int.reduceEq Int.reduceLT Int.reduceLE Int.reduceNeg Int.reduceAdd Int.reduceSub Int.reduceMul Int.reduceNe
attribute [local go_sem ↓] reduceIte
set_option linter.all false
set_option maxRecDepth 100000
set_option maxHeartbeats 2000000
variable {x0 x1 x2 x3 x4 x5 x6 x7 x8 x9 x10 x11 x12 x13 x14 x15 x16 x17 x18 x19 x20 x21 x22 x23 x24 x25 x26 x27 x28 x29 x30 x31 x32 x33:AV} {n:Int} {vs:List AV} {idom:List Int} {a v bB:Nat}
def S8 (f:FuncId):Bool:=Nat.beq f 74||(Nat.beq f 55||(Nat.beq f 25||(Nat.beq f 26||(Nat.beq f 28||Nat.beq f 29))))
def F8:Fns:=PX S8 F7
theorem qxl {A:Nat->Int}:Env Try.prog A tys F8:=jgt qw6
theorem no8 {f:FuncId} (h1:S1 f=false) (h2:Nat.beq f jgy.f=false) (h3:S3 f=false) (h4:S4 f=false) (h5:S5 f=false) (h6:S6 f=false) (h7:S7 f=false) (h8:S8 f=false) {h:Hp}:jdg F8 f vs h=none:=(ja9 h8).trans (no7 h1 h2 h3 h4 h5 h6 h7)
def S9 (f:FuncId):Bool:=Nat.beq f 56
def F9:Fns:=PX S9 F8
theorem qxm {A:Nat->Int}:Env Try.prog A tys F9:=jgt qxl
theorem no9 {f:FuncId} (h1:S1 f=false) (h2:Nat.beq f jgy.f=false) (h3:S3 f=false) (h4:S4 f=false) (h5:S5 f=false) (h6:S6 f=false) (h7:S7 f=false) (h8:S8 f=false) (h9:S9 f=false) {h:Hp}:jdg F9 f vs h=none:=(ja9 h9).trans (no8 h1 h2 h3 h4 h5 h6 h7 h8)
theorem qnt {h:Hp} {Q:AV->Hp->Prop} {b:Int} (hd:Dom idom a b):WC F8 74 [.s (jae jk9 idom),vi a,vi b] h Q=Q (vb true) h :=
 jaq (jbh rfl (by simp only[jas,jaz,jbb,jcp,ja0,jbc,ja6,jbm,jbd,jbj,if_true]) (qk2 jen hd))
def KP (idom:List Int) (p:Nat×Int) (k:Nat) (i:Nat):Prop:=(p.1=k/\p.2<(i:Int))∨(p.1≠k/\Dom idom p.1 k)
theorem qa9 {h:Hp} (ok:Ok h) {k i:Nat} (hk:KP idom (a,n) k i):WC F8 56 [.s (jae jk9 idom),.agg [si a,si n],.agg [si k,si i]] h (fun v h'=>∃ d,jg1 true h' d v=some (vb true)):=by
 refine jax (no8 rfl rfl rfl rfl rfl rfl rfl rfl) qk0 rfl ?_
 unfold j30
 obtain⟨hA,eA,okA,nA,xA,gA⟩:=jd4 ok [si a,si n] 110
 obtain⟨hB,eB,okB,nB,xB,gB⟩:=jd4 okA [si k,si i] 110
 have yA:=(gB _ (by omega)).trans xA
 rw[nA] at xB
 rcases hk with⟨h1,h2⟩ | ⟨h1,h2⟩
 .simp only at h1 h2
  have c1:((a:Int)=(k:Int))=True:=by simp;omega
  have c2:(n<(i:Int))=True:=eq_true h2
  simp(disch:=first|omega|rfl) only[go_sem,eA,nA,eB,yA,xB,c1,c2]
  exact⟨1,rfl⟩
 .simp only at h1 h2
  have c1:((a:Int)=(k:Int))=False:=by simp;omega
  simp(disch:=first|omega|rfl) only[go_sem,eA,nA,eB,yA,xB,c1]
  unfold jyd
  simp(disch:=first|omega|rfl) only[go_sem,yA,xB,qnt h2]
  exact⟨1,rfl⟩
theorem jyl {h:Hp} {Q:AV->Hp->Prop} {k i:Nat} (hk:KP idom (a,n) k i):WC F9 56 [.s (jae jk9 idom),.agg [si a,si n],.agg [si k,si i]] h Q=Q (vb true) h :=
 jaq (jbh rfl (by simp only[jas,jaz,jbb,jcp,ja0,jbc,ja6,jbm,jbd,jbj,if_true]) (qa9 jen hk))
def KT (idom:List Int) (T:List (Nat×Int)) (v k i:Nat):Prop:=∃ p,T[v]?=some p/\KP idom p k i
theorem qba {T:List (Nat×Int)} {l:List Ms.Opd} {k i:Nat} (hl:l.length<=10000) (hp:∀ o∈l,o.kind=1->KT idom T o.value k i) {Q:Ex->St->Prop} :
 ∀ (d j:Nat) (_:j+d=l.length) {hi:Hp} (_:Ok hi) {x14 x18 x20:AV}
  (hQ:∀ hj x14 x18 x20,Ok hj->hi.next<=hj.next->(∀ n,n<hi.next->hj.get n=hi.get n)->Q (.exit 4) (.mk [x0,.s (jae jk9 idom),x2,x3,x4,x5,x6,x7,x8,x9,x10,x11,x12,x13,x14,vi i,vi k,.s (jae jit T),x18,.s (jae jbe l),x20,vi l.length,vi l.length,x23,x24,x25,x26,x27,x28,x29,x30,x31,x32,x33] hj)),
  W F9 jkz.loop (.mk [x0,.s (jae jk9 idom),x2,x3,x4,x5,x6,x7,x8,x9,x10,x11,x12,x13,x14,vi i,vi k,.s (jae jit T),x18,.s (jae jbe l),x20,vi l.length,vi j,x23,x24,x25,x26,x27,x28,x29,x30,x31,x32,x33] hi) Q
 | 0,j,hd,hi,ok,x14,x18,x20,hQ=>by
  obtain rfl:j=l.length:=by omega
  rw[jag]
  unfold jkz
  simp(disch:=first|omega|rfl) only[go_sem,f0r]
  exact hQ hi _ _ _ ok (f0e _) (fun _ _=>rfl)
 | d+1,j,hd,hi,ok,x14,x18,x20,hQ=>by
  have hlt:(j:Int)<(l.length:Int):=by omega
  obtain⟨o,hio⟩:∃ y,l[j]?=some y:=⟨_,f0b (by omega)⟩
  have ho:=hp o (f0c hio)
  have hix:=jai (enc:=jbe) (size:=5) hio rfl
  have hs:(j:Int)+1=((j+1:Nat):Int):=by omega
  obtain⟨hA,eA,okA,nA,xA,gA⟩:=jb5 ok [.int .i64 0,.int .i64 0,.bool false,.int .i64 0,.int .i64 0] (jbe o) 46
  unfold jbe at xA eA
  rw[jag]
  unfold jkz jx7
  by_cases e:o.kind=1
  .have c1:((o.kind:Int)=1)=True:=by simp;omega
   obtain⟨⟨pb,pn⟩,h1,h2⟩:=ho e
   have hxs:=jai (enc:=jit) (size:=2) h1 rfl
   simp(disch:=first|omega|rfl) only[go_sem,jad,eq_true hlt,hix,jbe,eA,xA,c1,hxs,jit,jyl h2,hs]
   exact qba hl hp d (j+1) (by omega) okA (fun hj x14 x18 x20 o n g=>hQ hj x14 x18 x20 o (by omega) (fun m hm=>(g m (by omega)).trans (gA m hm)))
  .have c1:((o.kind:Int)=1)=False:=by simp;omega
   simp(disch:=first|omega|rfl) only[go_sem,jad,eq_true hlt,hix,jbe,eA,xA,c1,hs]
   exact qba hl hp d (j+1) (by omega) okA (fun hj x14 x18 x20 o n g=>hQ hj x14 x18 x20 o (by omega) (fun m hm=>(g m (by omega)).trans (gA m hm)))
theorem qg0 {T:List (Nat×Int)} {l:List Ms.Ins} {k:Nat} (hl:l.length<=10000) (hp:∀ (i:Nat) (x:Ms.Ins),l[i]?=some x->x.ops.length<=6/\∀ o∈x.ops,o.kind=1->KT idom T o.value k i) {Q:Ex->St->Prop} :
 ∀ (d j:Nat) (_:j+d=l.length) {hi:Hp} (_:Ok hi) {x14 x15 x18 x19 x20 x21 x22 x23 x25:AV}
  (hQ:∀ hj x14 x15 x18 x19 x20 x21 x22 x23 x25,Ok hj->hi.next<=hj.next->(∀ n,n<hi.next->hj.get n=hi.get n)->Q (.exit 2) (.mk [x0,.s (jae jk9 idom),x2,x3,x4,x5,x6,x7,x8,x9,x10,x11,x12,x13,x14,x15,vi k,.s (jae jit T),x18,x19,x20,x21,x22,x23,.s (jae jd6 l),x25,vi l.length,vi l.length,x28,x29,x30,x31,x32,x33] hj)),
  W F9 jk0.loop (.mk [x0,.s (jae jk9 idom),x2,x3,x4,x5,x6,x7,x8,x9,x10,x11,x12,x13,x14,x15,vi k,.s (jae jit T),x18,x19,x20,x21,x22,x23,.s (jae jd6 l),x25,vi l.length,vi j,x28,x29,x30,x31,x32,x33] hi) Q
 | 0,j,hd,hi,ok,x14,x15,x18,x19,x20,x21,x22,x23,x25,hQ=>by
  obtain rfl:j=l.length:=by omega
  rw[jag]
  unfold jk0
  simp(disch:=first|omega|rfl) only[go_sem,f0r]
  exact hQ hi _ _ _ _ _ _ _ _ _ ok (f0e _) (fun _ _=>rfl)
 | d+1,j,hd,hi,ok,x14,x15,x18,x19,x20,x21,x22,x23,x25,hQ=>by
  have hlt:(j:Int)<(l.length:Int):=by omega
  obtain⟨x,hio⟩:∃ y,l[j]?=some y:=⟨_,f0b (by omega)⟩
  obtain⟨hx1,hx2⟩:=hp j x hio
  have hix:=jai (enc:=jd6) (size:=3) hio rfl
  have hs:(j:Int)+1=((j+1:Nat):Int):=by omega
  obtain⟨hA,eA,okA,nA,xA,gA⟩:=jb5 ok [.int .i64 0,.nilSlice,.nilSlice] (jd6 x) 44
  have l1:=jah (enc:=jbe) (l:=x.ops)
  unfold jd6 at xA eA
  rw[jag]
  unfold jk0 jx8
  simp(disch:=first|omega|rfl) only[go_sem,jad,eq_true hlt,hix,jd6,eA,xA,l1]
  refine qba (by omega) hx2 x.ops.length 0 (by omega) okA (fun hj x14 x18 x20 o n g=>?_)
  simp(disch:=first|omega|rfl) only[go_sem,jad,hs]
  exact qg0 hl hp d (j+1) (by omega) o (fun hk x14 x15 x18 x19 x20 x21 x22 x23 x25 o' n' g'=>hQ hk x14 x15 x18 x19 x20 x21 x22 x23 x25 o' (by omega) (fun m hm=>(g' m (by omega)).trans ((g m (by omega)).trans (gA m hm))))
theorem qg1 {T:List (Nat×Int)} {l:List Nat} {b:Blk} {k:Nat} (hl:l.length<=10000) (hp:∀ v∈l,KT idom T v k b.instrs.length) {Q:Ex->St->Prop} :
 ∀ (d j:Nat) (_:j+d=l.length) {hi:Hp} (_:Ok hi) (_:hi.get bB=some (.arr [jae jav b.params,jae jd6 b.instrs,jae jgf b.edges] 36)) {x3 x4 x6:AV}
  (hQ:∀ x3 x4 x6,Q (.exit 8) (.mk [x0,.s (jae jk9 idom),x2,x3,x4,.s (jae jav l),x6,vi l.length,vi l.length,x9,x10,x11,x12,x13,x14,x15,vi k,.s (jae jit T),x18,x19,x20,x21,x22,x23,x24,x25,x26,x27,.s (.ptr bB 0),x29,x30,x31,x32,x33] hi)),
  W F9 jk1.loop (.mk [x0,.s (jae jk9 idom),x2,x3,x4,.s (jae jav l),x6,vi l.length,vi j,x9,x10,x11,x12,x13,x14,x15,vi k,.s (jae jit T),x18,x19,x20,x21,x22,x23,x24,x25,x26,x27,.s (.ptr bB 0),x29,x30,x31,x32,x33] hi) Q
 | 0,j,hd,hi,ok,xB,x3,x4,x6,hQ=>by
  obtain rfl:j=l.length:=by omega
  rw[jag]
  unfold jk1
  simp(disch:=first|omega|rfl) only[go_sem,f0r]
  exact hQ _ _ _
 | d+1,j,hd,hi,ok,xB,x3,x4,x6,hQ=>by
  have hlt:(j:Int)<(l.length:Int):=by omega
  obtain⟨v,hio⟩:∃ y,l[j]?=some y:=⟨_,f0b (by omega)⟩
  obtain⟨⟨pb,pn⟩,h1,h2⟩:=hp v (f0c hio)
  have hix:=jai (enc:=jav) (size:=1) hio rfl
  have hxs:=jai (enc:=jit) (size:=2) h1 rfl
  have hs:(j:Int)+1=((j+1:Nat):Int):=by omega
  have l1:=jah (enc:=jd6) (l:=b.instrs)
  rw[jag]
  unfold jk1 jya jx9
  simp(disch:=first|omega|rfl) only[go_sem,jad,eq_true hlt,hix,jav,hxs,jit,xB,l1,jyl h2,hs]
  exact qg1 hl hp d (j+1) (by omega) ok xB hQ
theorem qg2 {T:List (Nat×Int)} {l:List Ms.Edg} {b:Blk} {k:Nat} (hl:l.length<=10000) (hp:∀ e∈l,e.args.length<=10000/\∀ v∈e.args,KT idom T v k b.instrs.length) {Q:Ex->St->Prop} :
 ∀ (d j:Nat) (_:j+d=l.length) {hi:Hp} (_:Ok hi) (_:bB<hi.next) (_:hi.get bB=some (.arr [jae jav b.params,jae jd6 b.instrs,jae jgf b.edges] 36)) {x3 x4 x5 x6 x7 x8 x9 x11:AV}
  (hQ:∀ hj x3 x4 x5 x6 x7 x8 x9 x11,Ok hj->hi.next<=hj.next->(∀ n,n<hi.next->hj.get n=hi.get n)->Q (.exit 6) (.mk [x0,.s (jae jk9 idom),x2,x3,x4,x5,x6,x7,x8,x9,.s (jae jgf l),x11,vi l.length,vi l.length,x14,x15,vi k,.s (jae jit T),x18,x19,x20,x21,x22,x23,x24,x25,x26,x27,.s (.ptr bB 0),x29,x30,x31,x32,x33] hj)),
  W F9 jk2.loop (.mk [x0,.s (jae jk9 idom),x2,x3,x4,x5,x6,x7,x8,x9,.s (jae jgf l),x11,vi l.length,vi j,x14,x15,vi k,.s (jae jit T),x18,x19,x20,x21,x22,x23,x24,x25,x26,x27,.s (.ptr bB 0),x29,x30,x31,x32,x33] hi) Q
 | 0,j,hd,hi,ok,hb,xB,x3,x4,x5,x6,x7,x8,x9,x11,hQ=>by
  obtain rfl:j=l.length:=by omega
  rw[jag]
  unfold jk2
  simp(disch:=first|omega|rfl) only[go_sem,f0r]
  exact hQ hi _ _ _ _ _ _ _ _ ok (f0e _) (fun _ _=>rfl)
 | d+1,j,hd,hi,ok,hb,xB,x3,x4,x5,x6,x7,x8,x9,x11,hQ=>by
  have hlt:(j:Int)<(l.length:Int):=by omega
  obtain⟨e,hio⟩:∃ y,l[j]?=some y:=⟨_,f0b (by omega)⟩
  obtain⟨he1,he2⟩:=hp e (f0c hio)
  have hix:=jai (enc:=jgf) (size:=2) hio rfl
  have hs:(j:Int)+1=((j+1:Nat):Int):=by omega
  obtain⟨hA,eA,okA,nA,xA,gA⟩:=jb5 ok [.int .i64 0,.nilSlice] (jgf e) 73
  have yB:=(gA _ hb).trans xB
  have l1:=jah (enc:=jav) (l:=e.args)
  unfold jgf at xA eA
  rw[jag]
  unfold jk2 jyb
  simp(disch:=first|omega|rfl) only[go_sem,jad,eq_true hlt,hix,jgf,eA,xA,l1]
  refine qg1 he1 he2 e.args.length 0 (by omega) okA yB (fun x3 x4 x6=>?_)
  simp(disch:=first|omega|rfl) only[go_sem,jad,hs]
  exact qg2 hl hp d (j+1) (by omega) okA (by omega) yB (fun hk x3 x4 x5 x6 x7 x8 x9 x11 o' n' g'=>hQ hk x3 x4 x5 x6 x7 x8 x9 x11 o' (by omega) (fun m hm=>(g' m (by omega)).trans (gA m hm)))
structure UsOk (idom:List Int) (f:Fc):Prop where
 nb:f.blocks.length<=10000
 sz:∀ b∈f.blocks,b.instrs.length<=10000/\b.edges.length<=10000
 us:∀ (k i:Nat) (b:Blk) (x:Ms.Ins),f.blocks[k]?=some b->b.instrs[i]?=some x->x.ops.length<=6/\∀ o∈x.ops,o.kind=1->KT idom (jer f) o.value k i
 ed:∀ (k:Nat) (b:Blk) (e:Ms.Edg),f.blocks[k]?=some b->e∈b.edges->e.args.length<=10000/\∀ v∈e.args,KT idom (jer f) v k b.instrs.length
theorem qg3 {f:Fc} (u:UsOk idom f) {Q:Ex->St->Prop} :
 ∀ (d j:Nat) (_:j+d=f.blocks.length) {hi:Hp} (_:Ok hi) {x3 x4 x5 x6 x7 x8 x9 x10 x11 x12 x13 x14 x15 x16 x18 x19 x20 x21 x22 x23 x24 x25 x26 x27 x28 x30:AV}
  (hQ:∀ hj x3 x4 x5 x6 x7 x8 x9 x10 x11 x12 x13 x14 x15 x16 x18 x19 x20 x21 x22 x23 x24 x25 x26 x27 x28 x30,Q (.exit 0) (.mk [x0,.s (jae jk9 idom),x2,x3,x4,x5,x6,x7,x8,x9,x10,x11,x12,x13,x14,x15,x16,.s (jae jit (jer f)),x18,x19,x20,x21,x22,x23,x24,x25,x26,x27,x28,.s (jae ja4 f.blocks),x30,vi f.blocks.length,vi f.blocks.length,x33] hj)),
  W F9 jk3.loop (.mk [x0,.s (jae jk9 idom),x2,x3,x4,x5,x6,x7,x8,x9,x10,x11,x12,x13,x14,x15,x16,.s (jae jit (jer f)),x18,x19,x20,x21,x22,x23,x24,x25,x26,x27,x28,.s (jae ja4 f.blocks),x30,vi f.blocks.length,vi j,x33] hi) Q
 | 0,j,hd,hi,ok,x3,x4,x5,x6,x7,x8,x9,x10,x11,x12,x13,x14,x15,x16,x18,x19,x20,x21,x22,x23,x24,x25,x26,x27,x28,x30,hQ=>by
  obtain rfl:j=f.blocks.length:=by omega
  rw[jag]
  unfold jk3
  simp(disch:=first|omega|rfl) only[go_sem,f0r]
  exact hQ hi ..
 | d+1,j,hd,hi,ok,x3,x4,x5,x6,x7,x8,x9,x10,x11,x12,x13,x14,x15,x16,x18,x19,x20,x21,x22,x23,x24,x25,x26,x27,x28,x30,hQ=>by
  have nb:=u.nb
  have hlt:(j:Int)<(f.blocks.length:Int):=by omega
  obtain⟨b,hio⟩:∃ y,f.blocks[j]?=some y:=⟨_,f0b (by omega)⟩
  obtain⟨s1,s2⟩:=u.sz b (f0c hio)
  have hix:=jai (enc:=ja4) (size:=3) hio rfl
  have hs:(j:Int)+1=((j+1:Nat):Int):=by omega
  obtain⟨hA,eA,okA,nA,xA,gA⟩:=jb5 ok [.nilSlice,.nilSlice,.nilSlice] (ja4 b) 36
  have l1:=jah (enc:=jd6) (l:=b.instrs)
  have l2:=jah (enc:=jgf) (l:=b.edges)
  unfold ja4 at xA eA
  rw[jag]
  unfold jk3 jyc
  simp(disch:=first|omega|rfl) only[go_sem,jad,eq_true hlt,hix,ja4,eA,xA,l1]
  refine qg0 s1 (fun i x hx=>u.us j i b x hio hx) b.instrs.length 0 (by omega) okA (fun hj x14 x15 x18 x19 x20 x21 x22 x23 x25 o n g=>?_)
  have yA:=(g _ (by omega)).trans xA
  simp(disch:=first|omega|rfl) only[go_sem,yA,l2]
  refine qg2 s2 (fun e he=>u.ed j b e hio he) b.edges.length 0 (by omega) o (by omega) yA (fun hk x3 x4 x5 x6 x7 x8 x9 x11 o' n' g'=>?_)
  simp(disch:=first|omega|rfl) only[go_sem,jad,hs]
  exact qg3 u d (j+1) (by omega) o' hQ
theorem qnu {h:Hp} {Q:AV->Hp->Prop} {f:Fc} (hl:f.blocks.length<=10000) (hv:f.values.length<=10000) (hne:f.values≠[]) (hp:∀ b∈f.blocks,b.params.length<=10000/\b.instrs.length<=10000/\(∀ v∈b.params,v<f.values.length)/\∀ x∈b.instrs,x.ops.length<=6/\∀ o∈x.ops,o.value<f.values.length) :
 WC F9 55 [.agg [jae jav f.values,jae ja4 f.blocks]] h Q=Q (.s (jae jit (jer f))) h :=
 jaq ((ja9 rfl).trans (jbh rfl (by simp only[jas,jaz,jbb,jcp,ja0,jbc,ja6,jbm,jbd,jbj,if_true]) (qk3 jen hl hv hne hp)))
theorem qnv {h:Hp} (ok:Ok h) {f:Fc} (u:UsOk idom f) (hv:f.values.length<=10000) (hne:f.values≠[]) (hp:∀ b∈f.blocks,b.params.length<=10000/\b.instrs.length<=10000/\(∀ v∈b.params,v<f.values.length)/\∀ x∈b.instrs,x.ops.length<=6/\∀ o∈x.ops,o.value<f.values.length) :
 WC F9 27 [.agg [jae jav f.values,jae ja4 f.blocks],.s (jae jk9 idom)] h (fun v h'=>∃ d,jg1 true h' d v=some (vb true)):=by
 refine jax (no9 rfl rfl rfl rfl rfl rfl rfl rfl rfl) qkz rfl ?_
 unfold j3z
 obtain⟨hA,eA,okA,nA,xA,gA⟩:=jd4 ok [jae jav f.values,jae ja4 f.blocks] 26
 have l2:=jah (enc:=ja4) (l:=f.blocks)
 simp(disch:=first|omega|rfl) only[go_sem,eA,xA,qnu u.nb hv hne hp,l2]
 refine qg3 u f.blocks.length 0 (by omega) okA (fun hj x3 x4 x5 x6 x7 x8 x9 x10 x11 x12 x13 x14 x15 x16 x18 x19 x20 x21 x22 x23 x24 x25 x26 x27 x28 x30=>?_)
 simp(disch:=first|omega|rfl) only[go_sem]
 exact⟨1,rfl⟩
theorem qvi:∀ (s:List Bool),s.length<=5->oG s
 | [],_=>o_
 | [false],_=>o_f
 | [true],_=>o_t
 | [false,false],_=>qxi
 | [false,true],_=>qxf
 | [true,false],_=>qw9
 | [true,true],_=>qxc
 | [false,false,false],_=>qvf
 | [false,false,true],_=>qvc
 | [false,true,false],_=>qux
 | [false,true,true],_=>quu
 | [true,false,false],_=>qu6
 | [true,false,true],_=>qu9
 | [true,true,false],_=>qu0
 | [true,true,true],_=>qu3
 | [false,false,false,false],_=>qrw
 | [false,false,false,true],_=>qrn
 | [false,false,true,false],_=>qq2
 | [false,false,true,true],_=>qre
 | [false,true,false,false],_=>qq8
 | [false,true,false,true],_=>qrk
 | [false,true,true,false],_=>qqt
 | [false,true,true,true],_=>qqz
 | [true,false,false,false],_=>qqw
 | [true,false,false,true],_=>qqq
 | [true,false,true,false],_=>qrz
 | [true,false,true,true],_=>qq5
 | [true,true,false,false],_=>qrt
 | [true,true,false,true],_=>qrb
 | [true,true,true,false],_=>qrh
 | [true,true,true,true],_=>qrq
 | [false,false,false,false,false],_=>qmg
 | [false,false,false,false,true],_=>qld
 | [false,false,false,true,false],_=>qnq
 | [false,false,false,true,true],_=>qnk
 | [false,false,true,false,false],_=>qna
 | [false,false,true,false,true],_=>qlm
 | [false,false,true,true,false],_=>qly
 | [false,false,true,true,true],_=>qm1
 | [false,true,false,false,false],_=>ql1
 | [false,true,false,false,true],_=>qma
 | [false,true,false,true,false],_=>qmp
 | [false,true,false,true,true],_=>qnd
 | [false,true,true,false,false],_=>qmy
 | [false,true,true,false,true],_=>qm4
 | [false,true,true,true,false],_=>qnh
 | [false,true,true,true,true],_=>qlg
 | [true,false,false,false,false],_=>qmd
 | [true,false,false,false,true],_=>qla
 | [true,false,false,true,false],_=>qnn
 | [true,false,false,true,true],_=>qlj
 | [true,false,true,false,false],_=>qm7
 | [true,false,true,false,true],_=>qlv
 | [true,false,true,true,false],_=>ql7
 | [true,false,true,true,true],_=>qls
 | [true,true,false,false,false],_=>qlp
 | [true,true,false,false,true],_=>qmm
 | [true,true,false,true,false],_=>qmv
 | [true,true,false,true,true],_=>ql4
 | [true,true,true,false,false],_=>qk7
 | [true,true,true,false,true],_=>qmj
 | [true,true,true,true,false],_=>qms
 | [true,true,true,true,true],_=>qk4
 | _::_::_::_::_::_::_,h=>absurd h (by simp)
theorem qvj:∀ (s:List Bool),s.length<=5->nG s
 | [],_=>n_
 | [false],_=>n_f
 | [true],_=>n_t
 | [false,false],_=>qxj
 | [false,true],_=>qxg
 | [true,false],_=>qxa
 | [true,true],_=>qxd
 | [false,false,false],_=>qvg
 | [false,false,true],_=>qvd
 | [false,true,false],_=>quy
 | [false,true,true],_=>quv
 | [true,false,false],_=>qu7
 | [true,false,true],_=>qva
 | [true,true,false],_=>qu1
 | [true,true,true],_=>qu4
 | [false,false,false,false],_=>qrx
 | [false,false,false,true],_=>qro
 | [false,false,true,false],_=>qq3
 | [false,false,true,true],_=>qrf
 | [false,true,false,false],_=>qq9
 | [false,true,false,true],_=>qrl
 | [false,true,true,false],_=>qqu
 | [false,true,true,true],_=>qq0
 | [true,false,false,false],_=>qqx
 | [true,false,false,true],_=>qqr
 | [true,false,true,false],_=>qr0
 | [true,false,true,true],_=>qq6
 | [true,true,false,false],_=>qru
 | [true,true,false,true],_=>qrc
 | [true,true,true,false],_=>qri
 | [true,true,true,true],_=>qrr
 | [false,false,false,false,false],_=>qmh
 | [false,false,false,false,true],_=>qle
 | [false,false,false,true,false],_=>qnr
 | [false,false,false,true,true],_=>qnl
 | [false,false,true,false,false],_=>qnb
 | [false,false,true,false,true],_=>qln
 | [false,false,true,true,false],_=>qlz
 | [false,false,true,true,true],_=>qm2
 | [false,true,false,false,false],_=>ql2
 | [false,true,false,false,true],_=>qmb
 | [false,true,false,true,false],_=>qmq
 | [false,true,false,true,true],_=>qnf
 | [false,true,true,false,false],_=>qmz
 | [false,true,true,false,true],_=>qm5
 | [false,true,true,true,false],_=>qni
 | [false,true,true,true,true],_=>qlh
 | [true,false,false,false,false],_=>qme
 | [true,false,false,false,true],_=>qlb
 | [true,false,false,true,false],_=>qno
 | [true,false,false,true,true],_=>qlk
 | [true,false,true,false,false],_=>qm8
 | [true,false,true,false,true],_=>qlw
 | [true,false,true,true,false],_=>ql8
 | [true,false,true,true,true],_=>qlt
 | [true,true,false,false,false],_=>qlq
 | [true,true,false,false,true],_=>qmn
 | [true,true,false,true,false],_=>qmw
 | [true,true,false,true,true],_=>ql5
 | [true,true,true,false,false],_=>qk8
 | [true,true,true,false,true],_=>qmk
 | [true,true,true,true,false],_=>qmt
 | [true,true,true,true,true],_=>qk5
 | _::_::_::_::_::_::_,h=>absurd h (by simp)
theorem qvk:∀ (s:List Bool),s.length<=5->iG s
 | [],_=>i_
 | [false],_=>i_f
 | [true],_=>i_t
 | [false,false],_=>qxk
 | [false,true],_=>qxh
 | [true,false],_=>qxb
 | [true,true],_=>qxe
 | [false,false,false],_=>qvh
 | [false,false,true],_=>qve
 | [false,true,false],_=>quz
 | [false,true,true],_=>quw
 | [true,false,false],_=>qu8
 | [true,false,true],_=>qvb
 | [true,true,false],_=>qu2
 | [true,true,true],_=>qu5
 | [false,false,false,false],_=>qry
 | [false,false,false,true],_=>qrp
 | [false,false,true,false],_=>qq4
 | [false,false,true,true],_=>qrg
 | [false,true,false,false],_=>qra
 | [false,true,false,true],_=>qrm
 | [false,true,true,false],_=>qqv
 | [false,true,true,true],_=>qq1
 | [true,false,false,false],_=>qqy
 | [true,false,false,true],_=>qqs
 | [true,false,true,false],_=>qr1
 | [true,false,true,true],_=>qq7
 | [true,true,false,false],_=>qrv
 | [true,true,false,true],_=>qrd
 | [true,true,true,false],_=>qrj
 | [true,true,true,true],_=>qrs
 | [false,false,false,false,false],_=>qmi
 | [false,false,false,false,true],_=>qlf
 | [false,false,false,true,false],_=>qns
 | [false,false,false,true,true],_=>qnm
 | [false,false,true,false,false],_=>qnc
 | [false,false,true,false,true],_=>qlo
 | [false,false,true,true,false],_=>ql0
 | [false,false,true,true,true],_=>qm3
 | [false,true,false,false,false],_=>ql3
 | [false,true,false,false,true],_=>qmc
 | [false,true,false,true,false],_=>qmr
 | [false,true,false,true,true],_=>qng
 | [false,true,true,false,false],_=>qm0
 | [false,true,true,false,true],_=>qm6
 | [false,true,true,true,false],_=>qnj
 | [false,true,true,true,true],_=>qli
 | [true,false,false,false,false],_=>qmf
 | [true,false,false,false,true],_=>qlc
 | [true,false,false,true,false],_=>qnp
 | [true,false,false,true,true],_=>qll
 | [true,false,true,false,false],_=>qm9
 | [true,false,true,false,true],_=>qlx
 | [true,false,true,true,false],_=>ql9
 | [true,false,true,true,true],_=>qlu
 | [true,true,false,false,false],_=>qlr
 | [true,true,false,false,true],_=>qmo
 | [true,true,false,true,false],_=>qmx
 | [true,true,false,true,true],_=>ql6
 | [true,true,true,false,false],_=>qk9
 | [true,true,true,false,true],_=>qml
 | [true,true,true,true,false],_=>qmu
 | [true,true,true,true,true],_=>qk6
 | _::_::_::_::_::_::_,h=>absurd h (by simp)
theorem j1c {α β:Type} (g:α->β):∀ (l:List α),(l.map (fun v=>(v,g v))).map (·.1)=l
 | []=>rfl
 | a::l=>congrArg (a::·) (j1c g l)
theorem qd1 (b i:Nat) (ops:List Ms.Opd):(evO b i ops).map (·.1)=dfO ops:=j1c _ _
theorem j32 (b:Nat):∀ (l:List Ms.Ins) (i:Nat),(evI b i l).map (·.1)=(l.map jc5).flatten
 | [],i=>rfl
 | x::l,i=>by
  unfold evI
  rw[List.map_append,qd1,j32 b l]
  rfl
theorem jv6:∀ (l:List Blk) (k:Nat),(evL k l).map (·.1)=jda l
 | [],k=>rfl
 | b::l,k=>by
  unfold evL evB evP
  rw[List.map_append,List.map_append,j32,jv6 l,j1c]
  simp[jda,jrg]
theorem qbb {b:Nat} {y:Ms.Ins} (hv:v∈jc5 y):∀ {l:List Ms.Ins} {i j:Nat},l[i]?=some y->(v,(b,((j+i:Nat):Int)))∈evI b j l
 | [],i,j,h=>by simp at h
 | x::l,0,j,h=>by
  simp only[f1d,Option.some.injEq] at h
  subst h
  unfold evI
  exact f1e _ (f1w.2 ⟨v,hv,rfl⟩)
 | x::l,i+1,j,h=>by
  simp only[f2p] at h
  unfold evI
  have:=qbb (b:=b) hv (j:=j+1) h
  rw[show j+1+i=j+(i+1) by omega] at this
  exact f00 _ this
theorem qbc {b:Nat}:∀ {l:List Blk} {k:Nat} {i:Nat},b=k+i->j1a l v i n->(v,(b,n))∈evL k l
 | [],k,i,e,h=>by
  obtain⟨x,h1,_⟩:=h
  simp at h1
 | x::l,k,0,e,h=>by
  obtain⟨y,h1,h2⟩:=h
  simp only[f1d,Option.some.injEq] at h1
  subst h1
  rw[f1j] at e
  subst e
  unfold evL evB
  refine f1e _ ?_
  rcases h2 with⟨rfl,h2⟩ | ⟨i,y,rfl,h2,h3⟩
  .exact f1e _ (f1w.2 ⟨v,h2,rfl⟩)
  .have:=qbb (b:=b) h3 (j:=0) h2
   rw[f0x] at this
   exact f00 _ this
 | x::l,k,i+1,e,h=>by
  unfold evL
  refine f00 _ (qbc (i:=i) (by omega) ?_)
  obtain⟨y,h1,h2⟩:=h
  exact⟨y,by simpa using h1,h2⟩
theorem qbd:∀ (l:List (Nat×(Nat×Int))) (T:List (Nat×Int)),v∉l.map (·.1)->(spF T l)[v]?=T[v]?
 | [],T,_=>rfl
 | e::l,T,h=>by
  simp only[f1f,f0f,not_or] at h
  show(spF (T.set e.1 e.2) l)[v]?=_
  rw[qbd l _ h.2,f1r (fun x=>h.1 x.symm)]
theorem qbe {p:Nat×Int}:∀ (l:List (Nat×(Nat×Int))) (T:List (Nat×Int)),(l.map (·.1)).Nodup->v<T.length->(v,p)∈l->(spF T l)[v]?=some p
 | [],T,_,_,h=>by cases h
 | e::l,T,hd,hv,h=>by
  rw[f1f,f0t] at hd
  show(spF (T.set e.1 e.2) l)[v]?=_
  rcases f0f.1 h with rfl | h
  .rw [qbd l _ hd.1,List.getElem?_set_self hv]
  .exact qbe l _ hd.2 (by rw[f3n];exact hv) h
theorem qd2 {f:Fc} (hm:(jda f.blocks).Perm (List.range f.values.length)) {b:Nat} (h:j1a f.blocks v b n):(jer f)[v]?=some (b,n):=by
 have hmem:=qbc (k:=0) (i:=b) (f0x b).symm h
 have hk:v∈jda f.blocks:=by rw[←jv6 f.blocks 0];exact f1w.2 ⟨_,hmem,rfl⟩
 have hv:v<f.values.length:=List.mem_range.1 (hm.mem_iff.1 hk)
 unfold jer
 exact qbe _ _ (by rw[jv6];exact hm.nodup_iff.2 List.nodup_range) (by rw[f22];exact hv) hmem
theorem jv1.kt {f:Fc} (hm:(jda f.blocks).Perm (List.range f.values.length)) {k i:Nat} (h:jv1 idom f.blocks v k i):KT idom (jer f) v k i:=by
 obtain⟨b,n,h1,h2⟩:=h
 exact⟨(b,n),qd2 hm h1,h2⟩
def gPs (l:List Blk) (k:Nat):SV:=jae jav (l.getD k jhc).params
def gIs (l:List Blk) (k:Nat):SV:=jae jd6 (l.getD k jhc).instrs
def gAs (l:List Blk) (k j:Nat):SV:=jae jav ((l.getD k jhc).edges.getD j ⟨0,[]⟩).args
theorem qbf (a:Nat->SV):∀ (r p:List Ms.Edg),(∀ j,a j=jae jav ((p++r).getD j ⟨0,[]⟩).args)->qsh a p.length (r.map (·.block))=r.map jgf
 | [],p,h=>rfl
 | e::r,p,h=>by
  show[si e.block,a p.length]::qsh a (p.length+1) (r.map (·.block))=jgf e::r.map jgf
  have h1:a p.length=jae jav e.args:=by
   rw[h,f0g,f0v (f0e _)];simp
  have h2:=qbf a r (p++[e]) (fun j=>by rw[h];simp)
  rw[f0j] at h2
  rw[h1]
  exact congrArg _ h2
theorem qnw (a:Nat->SV) (l:List Ms.Edg) (h:∀ j,a j=jae jav (l.getD j ⟨0,[]⟩).args):qsi a (l.map (·.block))=jae jgf l:=by
 cases l with
 | nil=>rfl
 | cons e r =>
  have:=qbf a (e::r) [] (by simpa using h)
  exact congrArg SV.lst this
theorem j33 (l:List Blk):∀ (r p:List Blk),p++r=l->qax (gPs l) (gIs l) (gAs l) p.length (grL r)=r.map ja4
 | [],p,h=>rfl
 | b::r,p,h=>by
  have hb:l.getD p.length jhc=b:=by rw[←h,f0g,f0v (f0e _)];simp
  show[gPs l p.length,gIs l p.length,qsi (gAs l p.length) (qgs b)]::qax (gPs l) (gIs l) (gAs l) (p.length+1) (grL r)=ja4 b::r.map ja4
  have h1:qsi (gAs l p.length) (qgs b)=jae jgf b.edges:=qnw _ _ (fun j=>by unfold gAs;rw[hb])
  have h2:=j33 l r (p++[b]) (by rw[←h];simp)
  rw[f0j] at h2
  rw[h1]
  unfold gPs gIs
  rw[hb]
  exact congrArg _ h2
theorem j1d {f:Fc} (hne:f.blocks≠[]):[jae jav f.values,jae ja4 f.blocks]=qsj (grL f.blocks) (jae jav f.values) (gPs f.blocks) (gIs f.blocks) (gAs f.blocks):=by
 have h:=j33 f.blocks f.blocks [] rfl
 unfold qsj
 rw[show qax (gPs f.blocks) (gIs f.blocks) (gAs f.blocks) 0 (grL f.blocks)=f.blocks.map ja4 from h]
 cases e:f.blocks with
 | nil=>exact absurd e hne
 | cons b r=>rfl
section
variable {f:Fc} {s:List Bool} {h:Hp} {Q:AV->Hp->Prop}
theorem qd3 (hs:s.length<=5) (hg:grL f.blocks=gS s) (hne:f.blocks≠[]):jdg F8 25 [.agg [jae jav f.values,jae ja4 f.blocks]] h=some (.s (jae jav (qaw s 0)),h) :=
 jbh rfl (by simp only[jas,jaz,jbb,jcp,ja0,jbc,ja6,jbm,jbd,jbj,if_true]) (by rw[j1d hne,hg];exact jqy (qvi s hs _ _ _ _))
theorem qnx (hs:s.length<=5) (hg:grL f.blocks=gS s) (hne:f.blocks≠[]):jdg F8 26 [.agg [jae jav f.values,jae ja4 f.blocks]] h=some (.s (jae jrj (j5f (gS s))),h) :=
 jbh rfl (by simp only[jas,jaz,jbb,jcp,ja0,jbc,ja6,jbm,jbd,jbj,if_true]) (by rw[j1d hne,hg];exact jqy (qvj s hs _ _ _ _))
theorem qd4 (hs:s.length<=5) (hg:grL f.blocks=gS s) (hne:f.blocks≠[]):jdg F8 28 [.agg [jae jav f.values,jae ja4 f.blocks],.s (jae jav (qaw s 0))] h=some (.s (jae jk9 (jhh s)),h) :=
 jbh rfl (by simp only[jas,jaz,jbb,jcp,ja0,jbc,ja6,jbm,jbd,jbj,if_true]) (by rw[j1d hne,hg];exact jqy (qvk s hs _ _ _ _))
end
def shp:Nat->List (List Bool)
 | 0=>[[]]
 | n+1=>[]::((shp n).map (false::·)++(shp n).map (true::·))
theorem qbg:∀ (n:Nat) (s:List Bool),s.length<=n->s∈shp n
 | 0,s,h=>by
  have:=f1m (Nat.le_zero.1 h)
  subst this;exact f0s.2 rfl
 | n+1,[],h=>by unfold shp;simp
 | n+1,b::s,h=>by
  have:=qbg n s (by simpa using h)
  unfold shp
  refine f0y _ (f0d.2 ?_)
  cases b
  .exact .inl (f1w.2 ⟨s,this,rfl⟩)
  .exact .inr (f1w.2 ⟨s,this,rfl⟩)
theorem qny {P:List Bool->Bool} (h:(shp 5).all P=true) {s:List Bool} (hs:s.length<=5):P s=true:=f3d.1 h s (qbg 5 s hs)
def qv6 (g:List (List Nat)):Bool:=g.all (fun es=>es.length<=1||es.all (fun t=>((j5f g).getD t [0,0]).length<=1))
theorem qd5:(shp 5).all (fun s=>qv6 (gS s))=true:=by kernel_rfl
theorem jv7:∀ (s:List Bool) (c:Nat),(qaw s c).length=1+3*s.length
 | [],c=>rfl
 | false::s,c=>by simp[qaw,jv7 s];omega
 | true::s,c=>by simp[qaw,jv7 s];omega
structure FlG (m:Nat×Nat) (f:Fc) (s:List Bool):Prop where
 k:FcOk m f
 on:jmp f=0
 hs:s.length<=5
 hg:grL f.blocks=gS s
 hv:f.values≠[]
structure FlOk (m:Nat×Nat) (f:Fc) (s:List Bool):Prop extends FlG m f s where
 us:UsOk (jhh s) f
theorem FlG.hne {m:Nat×Nat} {f:Fc} {s:List Bool} (o:FlG m f s):f.blocks≠[]:=f10.1 (by have:=o.k.nb;omega)
theorem FlOk.len {m:Nat×Nat} {f:Fc} {s:List Bool} (o:FlOk m f s):f.blocks.length=1+3*s.length:=by rw[←jd3,o.hg,j3y]
theorem qnz {m:Nat×Nat} (m1:2<=m.1/\m.1<=10) (m2:2<=m.2/\m.2<=10) (l:List Pc):∃ s,FlOk m (jeg m l) s/\(jda (jeg m l).blocks).Perm (List.range (jeg m l).values.length) /\
 (∀ (k i:Nat) (b:Blk) (x:Ms.Ins) (o:Ms.Opd),(jeg m l).blocks[k]?=some b->b.instrs[i]?=some x->o∈x.ops->o.kind=1->jv1 (jhh s) (jeg m l).blocks o.value k i):=by
 obtain⟨k,kp,_⟩:=j2x m1 m2 l
 obtain⟨s,h1,h2,h3,h4⟩:=j5g m1 m2 l
 have hv:(jeg m l).values≠[]:=by
  obtain⟨b,g,c,n,_⟩:=((jku m1 m2).pieces (l.take 24)).bd.lay ⟨0,0,1,0,0,0,3⟩
  obtain⟨_,_,_,_,_,_,_,_,cs,e1,e2,_⟩:=qjd ((jku m1 m2).pieces (l.take 24)).v ⟨0,0,1,0,0,0,3⟩
  have:(jeg m l).values=(jco ((l.take 24).foldl jbt (jbp m)) ⟨0,0,1,0,0,0,3⟩).values:=rfl
  rw[this,e2]
  rcases e1 with rfl | rfl<;>simp
 refine⟨s,⟨⟨k,qdu kp,h1,h2,hv⟩,⟨by have:=k.nb;omega,fun b hb=>by have:=k.blk b hb;omega,fun a i b x hb hx=>⟨(k.ins b (f0c hb) x (f0c hx)).nops,fun o ho hk=>jv1.kt kp (h3 a i b x o hb hx ho hk)⟩,fun a b e hb he=>⟨?_,fun v hv=>jv1.kt kp (h4 a b e v hb he hv)⟩⟩⟩,kp,h3⟩
 obtain⟨_,_,t,h5,h6,_⟩:=k.edg b (f0c hb) e he
 have h7:=(k.blk t (f0c h5)).1
 have:=congrArg List.length h6
 simp only[f1a] at this
 omega
def S10 (f:FuncId):Bool:=Nat.beq f 27
def F10:Fns:=PX S10 F9
theorem qvl {A:Nat->Int}:Env Try.prog A tys F10:=jgt qxm
theorem qv7 {f:FuncId} (h1:S1 f=false) (h2:Nat.beq f jgy.f=false) (h3:S3 f=false) (h4:S4 f=false) (h5:S5 f=false) (h6:S6 f=false) (h7:S7 f=false) (h8:S8 f=false) (h9:S9 f=false) (h10:S10 f=false) {h:Hp}:jdg F10 f vs h=none:=(ja9 h10).trans (no9 h1 h2 h3 h4 h5 h6 h7 h8 h9)
section
variable {h:Hp} {m:Nat×Nat} {f:Fc} {s:List Bool} {Q:AV->Hp->Prop}
theorem qn0 {g:FuncId} (h9:S9 g=false) (h10:S10 g=false):jdg F10 g vs h=jdg F8 g vs h:=(ja9 h10).trans (ja9 h9)
theorem qd6 (k:FcOk m f) (on:jmp f=0) (m1:2<=m.1/\m.1<=10) (m2:2<=m.2/\m.2<=10):WC F10 24 [.agg [jae jav f.values,jae ja4 f.blocks],.agg [si m.1,si m.2]] h Q=Q (vi 0) h :=
 jaq ((qn0 rfl rfl).trans ((ja9 rfl).trans (by rw[qqj k m1 m2,on];rfl)))
theorem j5h (o:FlG m f s):WC F10 25 [.agg [jae jav f.values,jae ja4 f.blocks]] h Q=Q (.s (jae jav (qaw s 0))) h:=jaq ((qn0 rfl rfl).trans (qd3 o.hs o.hg o.hne))
theorem qbh (o:FlG m f s):WC F10 26 [.agg [jae jav f.values,jae ja4 f.blocks]] h Q=Q (.s (jae jrj (j5f (gS s)))) h:=jaq ((qn0 rfl rfl).trans (qnx o.hs o.hg o.hne))
theorem j5i (o:FlG m f s):WC F10 28 [.agg [jae jav f.values,jae ja4 f.blocks],.s (jae jav (qaw s 0))] h Q=Q (.s (jae jk9 (jhh s))) h:=jaq ((qn0 rfl rfl).trans (qd4 o.hs o.hg o.hne))
theorem qd7 (o:FlOk m f s):WC F10 27 [.agg [jae jav f.values,jae ja4 f.blocks],.s (jae jk9 (jhh s))] h Q=Q (vb true) h :=
 jaq (jbh rfl (by simp only[jas,jaz,jbb,jcp,ja0,jbc,ja6,jbm,jbd,jbj,if_true]) (qnv jen o.us (by have:=o.k.nv;omega) o.hv (qas o.k)))
end
theorem FlG.pred {m:Nat×Nat} {f:Fc} {s:List Bool} (o:FlG m f s) {b:Blk} (hb:b∈f.blocks) (h:1<b.edges.length) {e:Ms.Edg} (he:e∈b.edges):∃ pl,(j5f (gS s))[e.block]?=some pl/\pl.length<=1:=by
 have h1:=qny qd5 o.hs
 unfold qv6 at h1
 rw[f3d] at h1
 have h2:=h1 (qgs b) (by rw[←o.hg];exact f1w.2 ⟨b,hb,rfl⟩)
 simp only[f2s,decide_eq_true_eq,f3d] at h2
 have h3:=h2.resolve_left (by unfold qgs;rw[f1a];omega) e.block (f1w.2 ⟨e,he,rfl⟩)
 rw[f0g] at h3
 cases hq:(j5f (gS s))[e.block]? with
 | none=>rw[hq] at h3;simp at h3
 | some pl=>rw[hq] at h3;exact⟨pl,rfl,h3⟩
theorem qbi {m:Nat×Nat} {f:Fc} (k:FcOk m f) {IL:List (List Nat)} (pr:∀ b∈f.blocks,1<b.edges.length->∀ e∈b.edges,∃ pl,IL[e.block]?=some pl/\pl.length<=1) {b:Blk} (hb:b∈f.blocks) {Q:Ex->St->Prop} :
 ∀ (d j:Nat) (_:j+d=b.edges.length) {hi:Hp} (_:Ok hi) (_:bB<hi.next) (_:hi.get bB=some (.arr [jae jav b.params,jae jd6 b.instrs,jae jgf b.edges] 36)) {x4 x5 x8:AV}
  (hQ:∀ hj x4 x5 x8,Ok hj->hi.next<=hj.next->(∀ n,n<hi.next->hj.get n=hi.get n)->Q (.exit 2) (.mk [x0,x1,x2,x3,x4,x5,.s (jae jrj (IL)),.s (jae jgf b.edges),x8,vi b.edges.length,vi b.edges.length,.s (.ptr bB 0),x12,x13,x14,x15,x16,x17,x18,x19,x20] hj)),
  W F10 jk4.loop (.mk [x0,x1,x2,x3,x4,x5,.s (jae jrj (IL)),.s (jae jgf b.edges),x8,vi b.edges.length,vi j,.s (.ptr bB 0),x12,x13,x14,x15,x16,x17,x18,x19,x20] hi) Q
 | 0,j,hd,hi,ok,hB,xB,x4,x5,x8,hQ=>by
  obtain rfl:j=b.edges.length:=by omega
  rw[jag]
  unfold jk4
  simp(disch:=first|omega|rfl) only[go_sem,f0r]
  exact hQ hi _ _ _ ok (f0e _) (fun _ _=>rfl)
 | d+1,j,hd,hi,ok,hB,xB,x4,x5,x8,hQ=>by
  have hlt:(j:Int)<(b.edges.length:Int):=by omega
  have hne:=(k.blk b hb).2.2
  obtain⟨e,hio⟩:∃ y,b.edges[j]?=some y:=⟨_,f0b (by omega)⟩
  have hix:=jai (enc:=jgf) (size:=2) hio rfl
  have hs:(j:Int)+1=((j+1:Nat):Int):=by omega
  obtain⟨hA,eA,okA,nA,xA,gA⟩:=jb5 ok [.int .i64 0,.nilSlice] (jgf e) 73
  have yB:=(gA _ hB).trans xB
  have l2:=jah (enc:=jgf) (l:=b.edges)
  unfold jgf at xA eA
  rw[jag]
  unfold jk4 jyf
  by_cases h1:1<b.edges.length
  .have c1:(1<(b.edges.length:Int))=True:=by simp;omega
   obtain⟨pl,h2,h3⟩:=pr b hb h1 e (f0c hio)
   have hxp:=jai (enc:=jrj) (size:=1) h2 rfl
   have l3:=jah (enc:=jav) (l:=pl)
   have c2:(1<(pl.length:Int))=False:=by simp;omega
   simp(disch:=first|omega|rfl) only[go_sem,jad,eq_true hlt,hix,jgf,eA,xA,yB,l2,c1,hxp,jrj,l3,c2,hs]
   exact qbi k pr hb d (j+1) (by omega) okA (by omega) yB (fun hj x4 x5 x8 ok' n g=>hQ hj x4 x5 x8 ok' (by omega) (fun q hq=>(g q (by omega)).trans (gA q hq)))
  .have c1:(1<(b.edges.length:Int))=False:=by simp;omega
   simp(disch:=first|omega|rfl) only[go_sem,jad,eq_true hlt,hix,jgf,eA,xA,yB,l2,c1,hs]
   exact qbi k pr hb d (j+1) (by omega) okA (by omega) yB (fun hj x4 x5 x8 ok' n g=>hQ hj x4 x5 x8 ok' (by omega) (fun q hq=>(g q (by omega)).trans (gA q hq)))
theorem qg4 {m:Nat×Nat} {f:Fc} (k:FcOk m f) {IL:List (List Nat)} (pr:∀ b∈f.blocks,1<b.edges.length->∀ e∈b.edges,∃ pl,IL[e.block]?=some pl/\pl.length<=1) {bF:Nat} {Q:Ex->St->Prop} :
 ∀ (d j:Nat) (_:j+d=f.blocks.length) {hi:Hp} (_:Ok hi) (_:bF<hi.next) {x4 x5 x7 x8 x9 x10 x11 x13:AV}
  (hQ:∀ hj x4 x5 x7 x8 x9 x10 x11 x13,Ok hj->hi.next<=hj.next->hj.get bF=hi.get bF->Q (.exit 0) (.mk [x0,x1,x2,x3,x4,x5,.s (jae jrj (IL)),x7,x8,x9,x10,x11,.s (jae ja4 f.blocks),x13,vi f.blocks.length,vi f.blocks.length,x16,x17,x18,x19,.s (.ptr bF 0)] hj)),
  W F10 jk5.loop (.mk [x0,x1,x2,x3,x4,x5,.s (jae jrj (IL)),x7,x8,x9,x10,x11,.s (jae ja4 f.blocks),x13,vi f.blocks.length,vi j,x16,x17,x18,x19,.s (.ptr bF 0)] hi) Q
 | 0,j,hd,hi,ok,hB,x4,x5,x7,x8,x9,x10,x11,x13,hQ=>by
  obtain rfl:j=f.blocks.length:=by omega
  rw[jag]
  unfold jk5
  simp(disch:=first|omega|rfl) only[go_sem,f0r]
  exact hQ hi _ _ _ _ _ _ _ _ ok (f0e _) rfl
 | d+1,j,hd,hi,ok,hB,x4,x5,x7,x8,x9,x10,x11,x13,hQ=>by
  have nb:=k.nb
  have hlt:(j:Int)<(f.blocks.length:Int):=by omega
  obtain⟨b,hio⟩:∃ y,f.blocks[j]?=some y:=⟨_,f0b (by omega)⟩
  have hbm:=f0c hio
  have hix:=jai (enc:=ja4) (size:=3) hio rfl
  have hs:(j:Int)+1=((j+1:Nat):Int):=by omega
  obtain⟨hA,eA,okA,nA,xA,gA⟩:=jb5 ok [.nilSlice,.nilSlice,.nilSlice] (ja4 b) 36
  have l2:=jah (enc:=jgf) (l:=b.edges)
  unfold ja4 at xA eA
  rw[jag]
  unfold jk5 jyg
  simp(disch:=first|omega|rfl) only[go_sem,jad,eq_true hlt,hix,ja4,eA,xA,l2]
  refine qbi k pr hbm b.edges.length 0 (by omega) okA (by omega) xA (fun hj x4 x5 x8 ok' n g=>?_)
  simp(disch:=first|omega|rfl) only[go_sem,jad,hs]
  exact qg4 k pr d (j+1) (by omega) ok' (by omega) (fun hk x4 x5 x7 x8 x9 x10 x11 x13 o' n' g'=>hQ hk x4 x5 x7 x8 x9 x10 x11 x13 o' (by omega) (g'.trans ((g _ (by omega)).trans (gA _ hB))))
theorem qd8 {h:Hp} (ok:Ok h) {m:Nat×Nat} {f:Fc} (k:FcOk m f) (on:jmp f=0) (m1:2<=m.1/\m.1<=10) (m2:2<=m.2/\m.2<=10) {IL:List (List Nat)} {O:List Nat} {D:List Int} {r:Bool} (pr:∀ b∈f.blocks,1<b.edges.length->∀ e∈b.edges,∃ pl,IL[e.block]?=some pl/\pl.length<=1) (hl:f.blocks.length<=O.length)
 (hO:∀ h Q,WC F10 25 [.agg [jae jav f.values,jae ja4 f.blocks]] h Q=Q (.s (jae jav O)) h) (hI:∀ h Q,WC F10 26 [.agg [jae jav f.values,jae ja4 f.blocks]] h Q=Q (.s (jae jrj IL)) h)
 (hD:∀ h Q,WC F10 28 [.agg [jae jav f.values,jae ja4 f.blocks],.s (jae jav O)] h Q=Q (.s (jae jk9 D)) h) (hU:∀ h Q,WC F10 27 [.agg [jae jav f.values,jae ja4 f.blocks],.s (jae jk9 D)] h Q=Q (vb r) h) :
 WC F10 13 [.agg [jae jav f.values,jae ja4 f.blocks],.agg [si m.1,si m.2]] h (fun v h'=>∃ d,jg1 true h' d v=some (vi (Bool.rec 10 0 r))):=by
 refine jax (qv7 rfl rfl rfl rfl rfl rfl rfl rfl rfl rfl) qk1 rfl ?_
 unfold j31
 obtain⟨hA,eA,okA,nA,xA,gA⟩:=jd4 ok [jae jav f.values,jae ja4 f.blocks] 26
 obtain⟨hB,eB,okB,nB,xB,gB⟩:=jd4 okA [si m.1,si m.2] 30
 have yA:=(gB _ (by omega)).trans xA
 rw[nA] at xB
 have l2:=jah (enc:=ja4) (l:=f.blocks)
 have l3:=jah (enc:=jav) (l:=O)
 have c1:((O.length:Int)<(f.blocks.length:Int))=False:=eq_false (by omega)
 have hh:(hB.next<=h.next/\h.next<hB.next)=False:=eq_false (by omega)
 simp(disch:=first|omega|rfl) only[go_sem,eA,eB,nA,yA,xB,qd6 k on m1 m2]
 unfold jyk jye
 simp(disch:=first|omega|rfl) only[go_sem,yA,xB,hO,l3,l2,c1,hh]
 unfold jyj
 simp(disch:=first|omega|rfl) only[go_sem,yA,hI,l2]
 refine qg4 k pr f.blocks.length 0 (by omega) okB (by omega) (fun hj x4 x5 x7 x8 x9 x10 x11 x13 o' n g=>?_)
 have zA:=g.trans yA
 have hh:(hj.next<=h.next/\h.next<hj.next)=False:=eq_false (by omega)
 unfold jyh
 cases r with
 | false =>
  simp(disch:=first|omega|rfl) only[go_sem,zA,hO,hD,hU,hh]
  exact⟨1,rfl⟩
 | true =>
  simp(disch:=first|omega|rfl) only[go_sem,zA,hO,hD,hU,hh]
  unfold jyi
  simp(disch:=first|omega|rfl) only[go_sem]
  exact⟨1,rfl⟩
theorem FlG.fck {h:Hp} (ok:Ok h) {m:Nat×Nat} {f:Fc} {s:List Bool} (o:FlG m f s) (m1:2<=m.1/\m.1<=10) (m2:2<=m.2/\m.2<=10) {r:Bool} (hU:∀ h Q,WC F10 27 [.agg [jae jav f.values,jae ja4 f.blocks],.s (jae jk9 (jhh s))] h Q=Q (vb r) h) :
 WC F10 13 [.agg [jae jav f.values,jae ja4 f.blocks],.agg [si m.1,si m.2]] h (fun v h'=>∃ d,jg1 true h' d v=some (vi (Bool.rec 10 0 r))) :=
 qd8 ok o.k o.on m1 m2 (fun b hb h1 e he=>o.pred hb h1 he) (by rw[jv7,←jd3,o.hg,j3y];exact f0e _) (fun _ _=>j5h o) (fun _ _=>qbh o) (fun _ _=>j5i o) hU
theorem qn1 {h:Hp} (ok:Ok h) {m:Nat×Nat} {f:Fc} {s:List Bool} (o:FlOk m f s) (m1:2<=m.1/\m.1<=10) (m2:2<=m.2/\m.2<=10):WC F10 13 [.agg [jae jav f.values,jae ja4 f.blocks],.agg [si m.1,si m.2]] h (fun v h'=>∃ d,jg1 true h' d v=some (vi 0)) :=
 o.toFlG.fck ok m1 m2 (r:=true) (fun _ _=>qd7 o)
def S11 (f:FuncId):Bool:=Nat.beq f 13
def F11:Fns:=PX S11 F10
theorem qvm {A:Nat->Int}:Env Try.prog A tys F11:=jgt qvl
theorem qr2 {f:FuncId} (h1:S1 f=false) (h2:Nat.beq f jgy.f=false) (h3:S3 f=false) (h4:S4 f=false) (h5:S5 f=false) (h6:S6 f=false) (h7:S7 f=false) (h8:S8 f=false) (h9:S9 f=false) (h10:S10 f=false) (h11:S11 f=false) {h:Hp}:jdg F11 f vs h=none:=(ja9 h11).trans (qv7 h1 h2 h3 h4 h5 h6 h7 h8 h9 h10)
section
variable {h:Hp} {m:Nat×Nat} {f:Fc} {s:List Bool} {Q:AV->Hp->Prop}
theorem qn2 (o:FlOk m f s) (m1:2<=m.1/\m.1<=10) (m2:2<=m.2/\m.2<=10):jdg F11 13 [.agg [jae jav f.values,jae ja4 f.blocks],.agg [si m.1,si m.2]] h=some (vi 0,h):=jbh rfl (by simp only[jas,jaz,jbb,jcp,ja0,jbc,ja6,jbm,jbd,jbj,if_true]) (qn1 jen o m1 m2)
theorem qd9 (o:FlOk m f s) (m1:2<=m.1/\m.1<=10) (m2:2<=m.2/\m.2<=10):WC F11 13 [.agg [jae jav f.values,jae ja4 f.blocks],.agg [si m.1,si m.2]] h Q=Q (vi 0) h:=jaq (qn2 o m1 m2)
end
section
variable {h:Hp} {m:Nat×Nat} {f:Fc} {s:List Bool} {Q:AV->Hp->Prop}
end
end
end Go.Proofs.Ytkeenpohacdanaa.Ev
