/- Is each value made where it is used? What the code tells. -/
import Derived.Test.YtokcdoklcbgigaaUe
import Derived.Test.YtokcdoklcbgigaaGT1
import Derived.Test.YtokcdoklcbgigaaGT3
import Derived.Test.YtokcdoklcbgigaaGT5
import Derived.Test.YtokcdoklcbgigaaGT7
namespace Go.Proofs.Ytokcdoklcbgigaa.Ev
open Go Go.RowKit Go.Proofs.Ytokcdoklcbgigaa.Ms
attribute [local go_sem] f0j f0o f0q decide_eq_true_eq decide_eq_false_iff_not f0e and_true true_and f0n f0m reduceCtorEq decide_true decide_false f0z f0u f0s f0i Option.some.injEq f0k not_true_eq_false not_false_eq_true Hp.next_push Hp.next_put f0t Int.reduceToNat Nat.reduceAdd Nat.reduceMul Nat.reduceEqDiff Int.reduceEq Int.reduceLT Int.reduceLE Int.reduceNeg Int.reduceAdd Int.reduceSub Int.reduceMul Int.reduceNe
attribute [local go_sem ↓] reduceIte
set_option linter.all false
set_option maxRecDepth 100000
set_option maxHeartbeats 2000000
variable {x0 x1 x2 x3 x4 x5 x6 x7 x8 x9 x10 x11 x12 x13 x14 x15 x16 x17 x18 x19 x20 x21 x22 x23 x24 x25 x26 x27 x28 x29 x30 x31 x32 x33:AV} {n:Int} {vs:List AV} {idom:List Int} {a v bB:Nat}
def S8 (f:FuncId):Bool:=Nat.beq f 51||(Nat.beq f 42||(Nat.beq f 21||(Nat.beq f 22||(Nat.beq f 24||Nat.beq f 19))))
noncomputable def F8:Fns:=PX S8 F7
theorem qvh {A:Nat->Int}:Env Try.prog A tys F8:=jfr qu4
theorem no8 {f:FuncId} (h1:S1 f=false) (h2:Nat.beq f jex.f=false) (h3:S3 f=false) (h4:S4 f=false) (h5:S5 f=false) (h6:S6 f=false) (h7:S7 f=false) (h8:S8 f=false) {h:Hp}:jc6 F8 f vs h=none:=(ja4 h8).trans (no7 h1 h2 h3 h4 h5 h6 h7)
def S9 (f:FuncId):Bool:=Nat.beq f 43
noncomputable def F9:Fns:=PX S9 F8
theorem qvi {A:Nat->Int}:Env Try.prog A tys F9:=jfr qvh
theorem no9 {f:FuncId} (h1:S1 f=false) (h2:Nat.beq f jex.f=false) (h3:S3 f=false) (h4:S4 f=false) (h5:S5 f=false) (h6:S6 f=false) (h7:S7 f=false) (h8:S8 f=false) (h9:S9 f=false) {h:Hp}:jc6 F9 f vs h=none:=(ja4 h9).trans (no8 h1 h2 h3 h4 h5 h6 h7 h8)
theorem qml {h:Hp} {Q:AV->Hp->Prop} {b:Int} (hd:Dom idom a b):WC F8 51 [.s (jah jby idom),vi a,vi b] h Q=Q (vb true) h :=
 jaq (jbf rfl (by simp only [jas,jav,ja6,jbx,jaw,ja7,ja5,jbh,ja8,jbc,if_true]) (qjv jde hd))
def KP (idom:List Int) (p:Nat×Int) (k:Nat) (i:Nat):Prop:=(p.1=k/\p.2<(i:Int))∨(p.1≠k/\Dom idom p.1 k)
theorem qaa {h:Hp} (ok:Ok h) {k i:Nat} (hk:KP idom (a,n) k i):WC F8 43 [.s (jah jby idom),.agg [si a,si n],.agg [si k,si i]] h (fun v h'=>∃ d,jgb true h' d v=some (vb true)):=by
 refine jba (no8 rfl rfl rfl rfl rfl rfl rfl rfl) qjt rfl ?_
 unfold j27
 obtain ⟨hA,eA,okA,nA,xA,gA⟩:=jet ok [si a,si n] 97
 obtain ⟨hB,eB,okB,nB,xB,gB⟩:=jet okA [si k,si i] 97
 have yA:=(gB _ (by omega)).trans xA
 rw [nA] at xB
 rcases hk with ⟨h1,h2⟩ | ⟨h1,h2⟩
 ·simp only at h1 h2
  have c1:((a:Int)=(k:Int))=True:=by simp;omega
  have c2:(n<(i:Int))=True:=eq_true h2
  simp (disch:=first|omega|rfl|apply_rules[jaa,jab,jad]) only [go_sem,eA,nA,eB,yA,xB,c1,c2]
  exact ⟨1,rfl⟩
 ·simp only at h1 h2
  have c1:((a:Int)=(k:Int))=False:=by simp;omega
  simp (disch:=first|omega|rfl|apply_rules[jaa,jab,jad]) only [go_sem,eA,nA,eB,yA,xB,c1]
  unfold jxt
  simp (disch:=first|omega|rfl|apply_rules[jaa,jab,jad]) only [go_sem,yA,xB,qml h2]
  exact ⟨1,rfl⟩
theorem jx1 {h:Hp} {Q:AV->Hp->Prop} {k i:Nat} (hk:KP idom (a,n) k i):WC F9 43 [.s (jah jby idom),.agg [si a,si n],.agg [si k,si i]] h Q=Q (vb true) h :=
 jaq (jbf rfl (by simp only [jas,jav,ja6,jbx,jaw,ja7,ja5,jbh,ja8,jbc,if_true]) (qaa jde hk))
def KT (idom:List Int) (T:List (Nat×Int)) (v k i:Nat):Prop:=∃ p,T[v]?=some p/\KP idom p k i
theorem qab {T:List (Nat×Int)} {l:List Ms.Opd} {k i:Nat} (hl:l.length<=10000) (hp:∀ o∈l,o.kind=1->KT idom T o.value k i) {Q:Ex->St->Prop} :
 ∀ (d j:Nat) (_:j+d=l.length) {hi:Hp} (_:Ok hi) {x14 x18 x20:AV}
  (hQ:∀ hj x14 x18 x20,Ok hj->hi.next<=hj.next->(∀ n,n<hi.next->hj.get n=hi.get n)->Q (.exit 4) (.mk [x0,.s (jah jby idom),x2,x3,x4,x5,x6,x7,x8,x9,x10,x11,x12,x13,x14,vi i,vi k,.s (jah jiy T),x18,.s (jah jbd l),x20,vi l.length,vi l.length,x23,x24,x25,x26,x27,x28,x29,x30,x31,x32,x33] hj)),
  W F9 jkn.loop (.mk [x0,.s (jah jby idom),x2,x3,x4,x5,x6,x7,x8,x9,x10,x11,x12,x13,x14,vi i,vi k,.s (jah jiy T),x18,.s (jah jbd l),x20,vi l.length,vi j,x23,x24,x25,x26,x27,x28,x29,x30,x31,x32,x33] hi) Q
 | 0,j,hd,hi,ok,x14,x18,x20,hQ=>by
  obtain rfl:j=l.length:=by omega
  rw [jam]
  unfold jkn
  simp (disch:=first|omega|rfl|apply_rules[jaa,jab,jad]) only [go_sem,f05]
  exact hQ hi _ _ _ ok (f0f _) (fun _ _=>rfl)
 | d+1,j,hd,hi,ok,x14,x18,x20,hQ=>by
  have hlt:(j:Int)<(l.length:Int):=by omega
  obtain ⟨o,hio⟩:∃ y,l[j]?=some y:=⟨_,f0b (by omega)⟩
  have ho:=hp o (f0c hio)
  have hix:=jaj (enc:=jbd) (size:=5) hio rfl
  have hs:(j:Int)+1=((j+1:Nat):Int):=by omega
  obtain ⟨hA,eA,okA,nA,xA,gA⟩:=jcq ok [.int .i64 0,.int .i64 0,.bool false,.int .i64 0,.int .i64 0] (jbd o) 59
  unfold jbd at xA eA
  rw [jam]
  unfold jkn jxn
  by_cases e:o.kind=1
  ·have c1:((o.kind:Int)=1)=True:=by simp;omega
   obtain ⟨⟨pb,pn⟩,h1,h2⟩:=ho e
   have hxs:=jaj (enc:=jiy) (size:=2) h1 rfl
   simp (disch:=first|omega|rfl|apply_rules[jaa,jab,jad]) only [go_sem,jag,eq_true hlt,hix,jbd,eA,xA,c1,hxs,jiy,jx1 h2,hs]
   exact qab hl hp d (j+1) (by omega) okA (fun hj x14 x18 x20 o n g=>hQ hj x14 x18 x20 o (by omega) (fun m hm=>(g m (by omega)).trans (gA m hm)))
  ·have c1:((o.kind:Int)=1)=False:=by simp;omega
   simp (disch:=first|omega|rfl|apply_rules[jaa,jab,jad]) only [go_sem,jag,eq_true hlt,hix,jbd,eA,xA,c1,hs]
   exact qab hl hp d (j+1) (by omega) okA (fun hj x14 x18 x20 o n g=>hQ hj x14 x18 x20 o (by omega) (fun m hm=>(g m (by omega)).trans (gA m hm)))
theorem qf7 {T:List (Nat×Int)} {l:List Ms.Ins} {k:Nat} (hl:l.length<=10000) (hp:∀ (i:Nat) (x:Ms.Ins),l[i]?=some x->x.ops.length<=6/\∀ o∈x.ops,o.kind=1->KT idom T o.value k i) {Q:Ex->St->Prop} :
 ∀ (d j:Nat) (_:j+d=l.length) {hi:Hp} (_:Ok hi) {x14 x15 x18 x19 x20 x21 x22 x23 x25:AV}
  (hQ:∀ hj x14 x15 x18 x19 x20 x21 x22 x23 x25,Ok hj->hi.next<=hj.next->(∀ n,n<hi.next->hj.get n=hi.get n)->Q (.exit 2) (.mk [x0,.s (jah jby idom),x2,x3,x4,x5,x6,x7,x8,x9,x10,x11,x12,x13,x14,x15,vi k,.s (jah jiy T),x18,x19,x20,x21,x22,x23,.s (jah jc7 l),x25,vi l.length,vi l.length,x28,x29,x30,x31,x32,x33] hj)),
  W F9 jko.loop (.mk [x0,.s (jah jby idom),x2,x3,x4,x5,x6,x7,x8,x9,x10,x11,x12,x13,x14,x15,vi k,.s (jah jiy T),x18,x19,x20,x21,x22,x23,.s (jah jc7 l),x25,vi l.length,vi j,x28,x29,x30,x31,x32,x33] hi) Q
 | 0,j,hd,hi,ok,x14,x15,x18,x19,x20,x21,x22,x23,x25,hQ=>by
  obtain rfl:j=l.length:=by omega
  rw [jam]
  unfold jko
  simp (disch:=first|omega|rfl|apply_rules[jaa,jab,jad]) only [go_sem,f05]
  exact hQ hi _ _ _ _ _ _ _ _ _ ok (f0f _) (fun _ _=>rfl)
 | d+1,j,hd,hi,ok,x14,x15,x18,x19,x20,x21,x22,x23,x25,hQ=>by
  have hlt:(j:Int)<(l.length:Int):=by omega
  obtain ⟨x,hio⟩:∃ y,l[j]?=some y:=⟨_,f0b (by omega)⟩
  obtain ⟨hx1,hx2⟩:=hp j x hio
  have hix:=jaj (enc:=jc7) (size:=3) hio rfl
  have hs:(j:Int)+1=((j+1:Nat):Int):=by omega
  obtain ⟨hA,eA,okA,nA,xA,gA⟩:=jcq ok [.int .i64 0,.nilSlice,.nilSlice] (jc7 x) 57
  have l1:=jai (enc:=jbd) (l:=x.ops)
  unfold jc7 at xA eA
  rw [jam]
  unfold jko jxo
  simp (disch:=first|omega|rfl|apply_rules[jaa,jab,jad]) only [go_sem,jag,eq_true hlt,hix,jc7,eA,xA,l1]
  refine qab (by omega) hx2 x.ops.length 0 (by omega) okA (fun hj x14 x18 x20 o n g=>?_)
  simp (disch:=first|omega|rfl|apply_rules[jaa,jab,jad]) only [go_sem,jag,hs]
  exact qf7 hl hp d (j+1) (by omega) o (fun hk x14 x15 x18 x19 x20 x21 x22 x23 x25 o' n' g'=>hQ hk x14 x15 x18 x19 x20 x21 x22 x23 x25 o' (by omega) (fun m hm=>(g' m (by omega)).trans ((g m (by omega)).trans (gA m hm))))
theorem qf8 {T:List (Nat×Int)} {l:List Nat} {b:Blk} {k:Nat} (hl:l.length<=10000) (hp:∀ v∈l,KT idom T v k b.instrs.length) {Q:Ex->St->Prop} :
 ∀ (d j:Nat) (_:j+d=l.length) {hi:Hp} (_:Ok hi) (_:hi.get bB=some (.arr [jah ja1 b.params,jah jc7 b.instrs,jah jfb b.edges] 36)) {x3 x4 x6:AV}
  (hQ:∀ x3 x4 x6,Q (.exit 8) (.mk [x0,.s (jah jby idom),x2,x3,x4,.s (jah ja1 l),x6,vi l.length,vi l.length,x9,x10,x11,x12,x13,x14,x15,vi k,.s (jah jiy T),x18,x19,x20,x21,x22,x23,x24,x25,x26,x27,.s (.ptr bB 0),x29,x30,x31,x32,x33] hi)),
  W F9 jkp.loop (.mk [x0,.s (jah jby idom),x2,x3,x4,.s (jah ja1 l),x6,vi l.length,vi j,x9,x10,x11,x12,x13,x14,x15,vi k,.s (jah jiy T),x18,x19,x20,x21,x22,x23,x24,x25,x26,x27,.s (.ptr bB 0),x29,x30,x31,x32,x33] hi) Q
 | 0,j,hd,hi,ok,xB,x3,x4,x6,hQ=>by
  obtain rfl:j=l.length:=by omega
  rw [jam]
  unfold jkp
  simp (disch:=first|omega|rfl|apply_rules[jaa,jab,jad]) only [go_sem,f05]
  exact hQ _ _ _
 | d+1,j,hd,hi,ok,xB,x3,x4,x6,hQ=>by
  have hlt:(j:Int)<(l.length:Int):=by omega
  obtain ⟨v,hio⟩:∃ y,l[j]?=some y:=⟨_,f0b (by omega)⟩
  obtain ⟨⟨pb,pn⟩,h1,h2⟩:=hp v (f0c hio)
  have hix:=jaj (enc:=ja1) (size:=1) hio rfl
  have hxs:=jaj (enc:=jiy) (size:=2) h1 rfl
  have hs:(j:Int)+1=((j+1:Nat):Int):=by omega
  have l1:=jai (enc:=jc7) (l:=b.instrs)
  rw [jam]
  unfold jkp jxq jxp
  simp (disch:=first|omega|rfl|apply_rules[jaa,jab,jad]) only [go_sem,jag,eq_true hlt,hix,ja1,hxs,jiy,xB,l1,jx1 h2,hs]
  exact qf8 hl hp d (j+1) (by omega) ok xB hQ
theorem qf9 {T:List (Nat×Int)} {l:List Ms.Edg} {b:Blk} {k:Nat} (hl:l.length<=10000) (hp:∀ e∈l,e.args.length<=10000/\∀ v∈e.args,KT idom T v k b.instrs.length) {Q:Ex->St->Prop} :
 ∀ (d j:Nat) (_:j+d=l.length) {hi:Hp} (_:Ok hi) (_:bB<hi.next) (_:hi.get bB=some (.arr [jah ja1 b.params,jah jc7 b.instrs,jah jfb b.edges] 36)) {x3 x4 x5 x6 x7 x8 x9 x11:AV}
  (hQ:∀ hj x3 x4 x5 x6 x7 x8 x9 x11,Ok hj->hi.next<=hj.next->(∀ n,n<hi.next->hj.get n=hi.get n)->Q (.exit 6) (.mk [x0,.s (jah jby idom),x2,x3,x4,x5,x6,x7,x8,x9,.s (jah jfb l),x11,vi l.length,vi l.length,x14,x15,vi k,.s (jah jiy T),x18,x19,x20,x21,x22,x23,x24,x25,x26,x27,.s (.ptr bB 0),x29,x30,x31,x32,x33] hj)),
  W F9 jkq.loop (.mk [x0,.s (jah jby idom),x2,x3,x4,x5,x6,x7,x8,x9,.s (jah jfb l),x11,vi l.length,vi j,x14,x15,vi k,.s (jah jiy T),x18,x19,x20,x21,x22,x23,x24,x25,x26,x27,.s (.ptr bB 0),x29,x30,x31,x32,x33] hi) Q
 | 0,j,hd,hi,ok,hb,xB,x3,x4,x5,x6,x7,x8,x9,x11,hQ=>by
  obtain rfl:j=l.length:=by omega
  rw [jam]
  unfold jkq
  simp (disch:=first|omega|rfl|apply_rules[jaa,jab,jad]) only [go_sem,f05]
  exact hQ hi _ _ _ _ _ _ _ _ ok (f0f _) (fun _ _=>rfl)
 | d+1,j,hd,hi,ok,hb,xB,x3,x4,x5,x6,x7,x8,x9,x11,hQ=>by
  have hlt:(j:Int)<(l.length:Int):=by omega
  obtain ⟨e,hio⟩:∃ y,l[j]?=some y:=⟨_,f0b (by omega)⟩
  obtain ⟨he1,he2⟩:=hp e (f0c hio)
  have hix:=jaj (enc:=jfb) (size:=2) hio rfl
  have hs:(j:Int)+1=((j+1:Nat):Int):=by omega
  obtain ⟨hA,eA,okA,nA,xA,gA⟩:=jcq ok [.int .i64 0,.nilSlice] (jfb e) 53
  have yB:=(gA _ hb).trans xB
  have l1:=jai (enc:=ja1) (l:=e.args)
  unfold jfb at xA eA
  rw [jam]
  unfold jkq jxr
  simp (disch:=first|omega|rfl|apply_rules[jaa,jab,jad]) only [go_sem,jag,eq_true hlt,hix,jfb,eA,xA,l1]
  refine qf8 he1 he2 e.args.length 0 (by omega) okA yB (fun x3 x4 x6=>?_)
  simp (disch:=first|omega|rfl|apply_rules[jaa,jab,jad]) only [go_sem,jag,hs]
  exact qf9 hl hp d (j+1) (by omega) okA (by omega) yB (fun hk x3 x4 x5 x6 x7 x8 x9 x11 o' n' g'=>hQ hk x3 x4 x5 x6 x7 x8 x9 x11 o' (by omega) (fun m hm=>(g' m (by omega)).trans (gA m hm)))
structure UsOk (idom:List Int) (f:Fc):Prop where
 nb:f.blocks.length<=10000
 sz:∀ b∈f.blocks,b.instrs.length<=10000/\b.edges.length<=10000
 us:∀ (k i:Nat) (b:Blk) (x:Ms.Ins),f.blocks[k]?=some b->b.instrs[i]?=some x->x.ops.length<=6/\∀ o∈x.ops,o.kind=1->KT idom (jey f) o.value k i
 ed:∀ (k:Nat) (b:Blk) (e:Ms.Edg),f.blocks[k]?=some b->e∈b.edges->e.args.length<=10000/\∀ v∈e.args,KT idom (jey f) v k b.instrs.length
theorem qga {f:Fc} (u:UsOk idom f) {Q:Ex->St->Prop} :
 ∀ (d j:Nat) (_:j+d=f.blocks.length) {hi:Hp} (_:Ok hi) {x3 x4 x5 x6 x7 x8 x9 x10 x11 x12 x13 x14 x15 x16 x18 x19 x20 x21 x22 x23 x24 x25 x26 x27 x28 x30:AV}
  (hQ:∀ hj x3 x4 x5 x6 x7 x8 x9 x10 x11 x12 x13 x14 x15 x16 x18 x19 x20 x21 x22 x23 x24 x25 x26 x27 x28 x30,Q (.exit 0) (.mk [x0,.s (jah jby idom),x2,x3,x4,x5,x6,x7,x8,x9,x10,x11,x12,x13,x14,x15,x16,.s (jah jiy (jey f)),x18,x19,x20,x21,x22,x23,x24,x25,x26,x27,x28,.s (jah ja0 f.blocks),x30,vi f.blocks.length,vi f.blocks.length,x33] hj)),
  W F9 jkr.loop (.mk [x0,.s (jah jby idom),x2,x3,x4,x5,x6,x7,x8,x9,x10,x11,x12,x13,x14,x15,x16,.s (jah jiy (jey f)),x18,x19,x20,x21,x22,x23,x24,x25,x26,x27,x28,.s (jah ja0 f.blocks),x30,vi f.blocks.length,vi j,x33] hi) Q
 | 0,j,hd,hi,ok,x3,x4,x5,x6,x7,x8,x9,x10,x11,x12,x13,x14,x15,x16,x18,x19,x20,x21,x22,x23,x24,x25,x26,x27,x28,x30,hQ=>by
  obtain rfl:j=f.blocks.length:=by omega
  rw [jam]
  unfold jkr
  simp (disch:=first|omega|rfl|apply_rules[jaa,jab,jad]) only [go_sem,f05]
  exact hQ hi ..
 | d+1,j,hd,hi,ok,x3,x4,x5,x6,x7,x8,x9,x10,x11,x12,x13,x14,x15,x16,x18,x19,x20,x21,x22,x23,x24,x25,x26,x27,x28,x30,hQ=>by
  have nb:=u.nb
  have hlt:(j:Int)<(f.blocks.length:Int):=by omega
  obtain ⟨b,hio⟩:∃ y,f.blocks[j]?=some y:=⟨_,f0b (by omega)⟩
  obtain ⟨s1,s2⟩:=u.sz b (f0c hio)
  have hix:=jaj (enc:=ja0) (size:=3) hio rfl
  have hs:(j:Int)+1=((j+1:Nat):Int):=by omega
  obtain ⟨hA,eA,okA,nA,xA,gA⟩:=jcq ok [.nilSlice,.nilSlice,.nilSlice] (ja0 b) 36
  have l1:=jai (enc:=jc7) (l:=b.instrs)
  have l2:=jai (enc:=jfb) (l:=b.edges)
  unfold ja0 at xA eA
  rw [jam]
  unfold jkr jxs
  simp (disch:=first|omega|rfl|apply_rules[jaa,jab,jad]) only [go_sem,jag,eq_true hlt,hix,ja0,eA,xA,l1]
  refine qf7 s1 (fun i x hx=>u.us j i b x hio hx) b.instrs.length 0 (by omega) okA (fun hj x14 x15 x18 x19 x20 x21 x22 x23 x25 o n g=>?_)
  have yA:=(g _ (by omega)).trans xA
  simp (disch:=first|omega|rfl|apply_rules[jaa,jab,jad]) only [go_sem,yA,l2]
  refine qf9 s2 (fun e he=>u.ed j b e hio he) b.edges.length 0 (by omega) o (by omega) yA (fun hk x3 x4 x5 x6 x7 x8 x9 x11 o' n' g'=>?_)
  simp (disch:=first|omega|rfl|apply_rules[jaa,jab,jad]) only [go_sem,jag,hs]
  exact qga u d (j+1) (by omega) o' hQ
theorem qmm {h:Hp} {Q:AV->Hp->Prop} {f:Fc} (hl:f.blocks.length<=10000) (hv:f.values.length<=10000) (hne:f.values≠[]) (hp:∀ b∈f.blocks,b.params.length<=10000/\b.instrs.length<=10000/\(∀ v∈b.params,v<f.values.length)/\∀ x∈b.instrs,x.ops.length<=6/\∀ o∈x.ops,o.value<f.values.length) :
 WC F9 42 [.agg [jah ja1 f.values,jah ja0 f.blocks]] h Q=Q (.s (jah jiy (jey f))) h :=
 jaq ((ja4 rfl).trans (jbf rfl (by simp only [jas,jav,ja6,jbx,jaw,ja7,ja5,jbh,ja8,jbc,if_true]) (qjw jde hl hv hne hp)))
theorem qmn {h:Hp} (ok:Ok h) {f:Fc} (u:UsOk idom f) (hv:f.values.length<=10000) (hne:f.values≠[]) (hp:∀ b∈f.blocks,b.params.length<=10000/\b.instrs.length<=10000/\(∀ v∈b.params,v<f.values.length)/\∀ x∈b.instrs,x.ops.length<=6/\∀ o∈x.ops,o.value<f.values.length) :
 WC F9 23 [.agg [jah ja1 f.values,jah ja0 f.blocks],.s (jah jby idom)] h (fun v h'=>∃ d,jgb true h' d v=some (vb true)):=by
 refine jba (no9 rfl rfl rfl rfl rfl rfl rfl rfl rfl) qjs rfl ?_
 unfold j26
 obtain ⟨hA,eA,okA,nA,xA,gA⟩:=jet ok [jah ja1 f.values,jah ja0 f.blocks] 26
 have l2:=jai (enc:=ja0) (l:=f.blocks)
 simp (disch:=first|omega|rfl|apply_rules[jaa,jab,jad]) only [go_sem,eA,xA,qmm u.nb hv hne hp,l2]
 refine qga u f.blocks.length 0 (by omega) okA (fun hj x3 x4 x5 x6 x7 x8 x9 x10 x11 x12 x13 x14 x15 x16 x18 x19 x20 x21 x22 x23 x24 x25 x26 x27 x28 x30=>?_)
 simp (disch:=first|omega|rfl|apply_rules[jaa,jab,jad]) only [go_sem]
 exact ⟨1,rfl⟩
theorem qti:∀ (s:List Bool),s.length<=5->oG s
 | [],_=>o_
 | [false],_=>o_f
 | [true],_=>o_t
 | [false,false],_=>qve
 | [false,true],_=>qvb
 | [true,false],_=>qu5
 | [true,true],_=>qu8
 | [false,false,false],_=>qtf
 | [false,false,true],_=>qtc
 | [false,true,false],_=>qsx
 | [false,true,true],_=>qsu
 | [true,false,false],_=>qs6
 | [true,false,true],_=>qs9
 | [true,true,false],_=>qs0
 | [true,true,true],_=>qs3
 | [false,false,false,false],_=>qql
 | [false,false,false,true],_=>qqc
 | [false,false,true,false],_=>qpr
 | [false,false,true,true],_=>qp3
 | [false,true,false,false],_=>qpx
 | [false,true,false,true],_=>qp9
 | [false,true,true,false],_=>qpi
 | [false,true,true,true],_=>qpo
 | [true,false,false,false],_=>qpl
 | [true,false,false,true],_=>qpf
 | [true,false,true,false],_=>qqo
 | [true,false,true,true],_=>qpu
 | [true,true,false,false],_=>qqi
 | [true,true,false,true],_=>qp0
 | [true,true,true,false],_=>qp6
 | [true,true,true,true],_=>qqf
 | [false,false,false,false,false],_=>qk9
 | [false,false,false,false,true],_=>qj6
 | [false,false,false,true,false],_=>qmi
 | [false,false,false,true,true],_=>qmc
 | [false,false,true,false,false],_=>ql3
 | [false,false,true,false,true],_=>qkf
 | [false,false,true,true,false],_=>qkr
 | [false,false,true,true,true],_=>qlu
 | [false,true,false,false,false],_=>qku
 | [false,true,false,false,true],_=>qk3
 | [false,true,false,true,false],_=>qli
 | [false,true,false,true,true],_=>ql6
 | [false,true,true,false,false],_=>qlr
 | [false,true,true,false,true],_=>qlx
 | [false,true,true,true,false],_=>ql9
 | [false,true,true,true,true],_=>qj9
 | [true,false,false,false,false],_=>qk6
 | [true,false,false,false,true],_=>qj3
 | [true,false,false,true,false],_=>qmf
 | [true,false,false,true,true],_=>qkc
 | [true,false,true,false,false],_=>ql0
 | [true,false,true,false,true],_=>qko
 | [true,false,true,true,false],_=>qk0
 | [true,false,true,true,true],_=>qkl
 | [true,true,false,false,false],_=>qki
 | [true,true,false,false,true],_=>qlf
 | [true,true,false,true,false],_=>qlo
 | [true,true,false,true,true],_=>qkx
 | [true,true,true,false,false],_=>qj0
 | [true,true,true,false,true],_=>qlc
 | [true,true,true,true,false],_=>qll
 | [true,true,true,true,true],_=>qjx
 | _::_::_::_::_::_::_,h=>absurd h (by simp)
theorem qtj:∀ (s:List Bool),s.length<=5->nG s
 | [],_=>n_
 | [false],_=>n_f
 | [true],_=>n_t
 | [false,false],_=>qvf
 | [false,true],_=>qvc
 | [true,false],_=>qu6
 | [true,true],_=>qu9
 | [false,false,false],_=>qtg
 | [false,false,true],_=>qtd
 | [false,true,false],_=>qsy
 | [false,true,true],_=>qsv
 | [true,false,false],_=>qs7
 | [true,false,true],_=>qta
 | [true,true,false],_=>qs1
 | [true,true,true],_=>qs4
 | [false,false,false,false],_=>qqm
 | [false,false,false,true],_=>qqd
 | [false,false,true,false],_=>qps
 | [false,false,true,true],_=>qp4
 | [false,true,false,false],_=>qpy
 | [false,true,false,true],_=>qqa
 | [false,true,true,false],_=>qpj
 | [false,true,true,true],_=>qpp
 | [true,false,false,false],_=>qpm
 | [true,false,false,true],_=>qpg
 | [true,false,true,false],_=>qqp
 | [true,false,true,true],_=>qpv
 | [true,true,false,false],_=>qqj
 | [true,true,false,true],_=>qp1
 | [true,true,true,false],_=>qp7
 | [true,true,true,true],_=>qqg
 | [false,false,false,false,false],_=>qla
 | [false,false,false,false,true],_=>qj7
 | [false,false,false,true,false],_=>qmj
 | [false,false,false,true,true],_=>qmd
 | [false,false,true,false,false],_=>ql4
 | [false,false,true,false,true],_=>qkg
 | [false,false,true,true,false],_=>qks
 | [false,false,true,true,true],_=>qlv
 | [false,true,false,false,false],_=>qkv
 | [false,true,false,false,true],_=>qk4
 | [false,true,false,true,false],_=>qlj
 | [false,true,false,true,true],_=>ql7
 | [false,true,true,false,false],_=>qls
 | [false,true,true,false,true],_=>qly
 | [false,true,true,true,false],_=>qma
 | [false,true,true,true,true],_=>qka
 | [true,false,false,false,false],_=>qk7
 | [true,false,false,false,true],_=>qj4
 | [true,false,false,true,false],_=>qmg
 | [true,false,false,true,true],_=>qkd
 | [true,false,true,false,false],_=>ql1
 | [true,false,true,false,true],_=>qkp
 | [true,false,true,true,false],_=>qk1
 | [true,false,true,true,true],_=>qkm
 | [true,true,false,false,false],_=>qkj
 | [true,true,false,false,true],_=>qlg
 | [true,true,false,true,false],_=>qlp
 | [true,true,false,true,true],_=>qky
 | [true,true,true,false,false],_=>qj1
 | [true,true,true,false,true],_=>qld
 | [true,true,true,true,false],_=>qlm
 | [true,true,true,true,true],_=>qjy
 | _::_::_::_::_::_::_,h=>absurd h (by simp)
theorem qtk:∀ (s:List Bool),s.length<=5->iG s
 | [],_=>i_
 | [false],_=>i_f
 | [true],_=>i_t
 | [false,false],_=>qvg
 | [false,true],_=>qvd
 | [true,false],_=>qu7
 | [true,true],_=>qva
 | [false,false,false],_=>qth
 | [false,false,true],_=>qte
 | [false,true,false],_=>qsz
 | [false,true,true],_=>qsw
 | [true,false,false],_=>qs8
 | [true,false,true],_=>qtb
 | [true,true,false],_=>qs2
 | [true,true,true],_=>qs5
 | [false,false,false,false],_=>qqn
 | [false,false,false,true],_=>qqe
 | [false,false,true,false],_=>qpt
 | [false,false,true,true],_=>qp5
 | [false,true,false,false],_=>qpz
 | [false,true,false,true],_=>qqb
 | [false,true,true,false],_=>qpk
 | [false,true,true,true],_=>qpq
 | [true,false,false,false],_=>qpn
 | [true,false,false,true],_=>qph
 | [true,false,true,false],_=>qqq
 | [true,false,true,true],_=>qpw
 | [true,true,false,false],_=>qqk
 | [true,true,false,true],_=>qp2
 | [true,true,true,false],_=>qp8
 | [true,true,true,true],_=>qqh
 | [false,false,false,false,false],_=>qlb
 | [false,false,false,false,true],_=>qj8
 | [false,false,false,true,false],_=>qmk
 | [false,false,false,true,true],_=>qme
 | [false,false,true,false,false],_=>ql5
 | [false,false,true,false,true],_=>qkh
 | [false,false,true,true,false],_=>qkt
 | [false,false,true,true,true],_=>qlw
 | [false,true,false,false,false],_=>qkw
 | [false,true,false,false,true],_=>qk5
 | [false,true,false,true,false],_=>qlk
 | [false,true,false,true,true],_=>ql8
 | [false,true,true,false,false],_=>qlt
 | [false,true,true,false,true],_=>qlz
 | [false,true,true,true,false],_=>qmb
 | [false,true,true,true,true],_=>qkb
 | [true,false,false,false,false],_=>qk8
 | [true,false,false,false,true],_=>qj5
 | [true,false,false,true,false],_=>qmh
 | [true,false,false,true,true],_=>qke
 | [true,false,true,false,false],_=>ql2
 | [true,false,true,false,true],_=>qkq
 | [true,false,true,true,false],_=>qk2
 | [true,false,true,true,true],_=>qkn
 | [true,true,false,false,false],_=>qkk
 | [true,true,false,false,true],_=>qlh
 | [true,true,false,true,false],_=>qlq
 | [true,true,false,true,true],_=>qkz
 | [true,true,true,false,false],_=>qj2
 | [true,true,true,false,true],_=>qle
 | [true,true,true,true,false],_=>qln
 | [true,true,true,true,true],_=>qjz
 | _::_::_::_::_::_::_,h=>absurd h (by simp)
theorem j0q {α β:Type} (g:α->β):∀ (l:List α),(l.map (fun v=>(v,g v))).map (·.1)=l
 | []=>rfl
 | a::l=>congrArg (a::·) (j0q g l)
theorem qdq (b i:Nat) (ops:List Ms.Opd):(evO b i ops).map (·.1)=dfO ops:=j0q _ _
theorem j29 (b:Nat):∀ (l:List Ms.Ins) (i:Nat),(evI b i l).map (·.1)=(l.map jdc).flatten
 | [],i=>rfl
 | x::l,i=>by
  unfold evI
  rw [f3e,qdq,j29 b l]
  rfl
theorem jvc:∀ (l:List Blk) (k:Nat),(evL k l).map (·.1)=jdi l
 | [],k=>rfl
 | b::l,k=>by
  unfold evL evB evP
  rw [f3e,f3e,j29,jvc l,j0q]
  simp [jdi,jq2]
theorem qac {b:Nat} {y:Ms.Ins} (hv:v∈jdc y):∀ {l:List Ms.Ins} {i j:Nat},l[i]?=some y->(v,(b,((j+i:Nat):Int)))∈evI b j l
 | [],i,j,h=>by simp at h
 | x::l,0,j,h=>by
  simp only [f1j,Option.some.injEq] at h
  subst h
  unfold evI
  exact f1i _ (f16.2 ⟨v,hv,rfl⟩)
 | x::l,i+1,j,h=>by
  simp only [f2r] at h
  unfold evI
  have:=qac (b:=b) hv (j:=j+1) h
  rw [show j+1+i=j+(i+1) by omega] at this
  exact f1c _ this
theorem qad {b:Nat}:∀ {l:List Blk} {k:Nat} {i:Nat},b=k+i->j0o l v i n->(v,(b,n))∈evL k l
 | [],k,i,e,h=>by
  obtain ⟨x,h1,_⟩:=h
  simp at h1
 | x::l,k,0,e,h=>by
  obtain ⟨y,h1,h2⟩:=h
  simp only [f1j,Option.some.injEq] at h1
  subst h1
  rw [f0s] at e
  subst e
  unfold evL evB
  refine f1i _ ?_
  rcases h2 with ⟨rfl,h2⟩ | ⟨i,y,rfl,h2,h3⟩
  ·exact f1i _ (f16.2 ⟨v,h2,rfl⟩)
  ·have:=qac (b:=b) h3 (j:=0) h2
   rw [f0i] at this
   exact f1c _ this
 | x::l,k,i+1,e,h=>by
  unfold evL
  refine f1c _ (qad (i:=i) (by omega) ?_)
  obtain ⟨y,h1,h2⟩:=h
  exact ⟨y,by simpa using h1,h2⟩
theorem qae:∀ (l:List (Nat×(Nat×Int))) (T:List (Nat×Int)),v∉l.map (·.1)->(spF T l)[v]?=T[v]?
 | [],T,_=>rfl
 | e::l,T,h=>by
  simp only [List.map_cons,f0h,not_or] at h
  show (spF (T.set e.1 e.2) l)[v]?=_
  rw [qae l _ h.2,f1v (fun x=>h.1 x.symm)]
theorem qaf {p:Nat×Int}:∀ (l:List (Nat×(Nat×Int))) (T:List (Nat×Int)),(l.map (·.1)).Nodup->v<T.length->(v,p)∈l->(spF T l)[v]?=some p
 | [],T,_,_,h=>by cases h
 | e::l,T,hd,hv,h=>by
  rw [List.map_cons,f06] at hd
  show (spF (T.set e.1 e.2) l)[v]?=_
  rcases f0h.1 h with rfl | h
  ·rw [qae l _ hd.1,List.getElem?_set_self hv]
  ·exact qaf l _ hd.2 (by rw [f2u];exact hv) h
theorem qdr {f:Fc} (hm:(jdi f.blocks).Perm (List.range f.values.length)) {b:Nat} (h:j0o f.blocks v b n):(jey f)[v]?=some (b,n):=by
 have hmem:=qad (k:=0) (i:=b) (f0i b).symm h
 have hk:v∈jdi f.blocks:=by rw [←jvc f.blocks 0];exact f16.2 ⟨_,hmem,rfl⟩
 have hv:v<f.values.length:=List.mem_range.1 (hm.mem_iff.1 hk)
 unfold jey
 exact qaf _ _ (by rw [jvc];exact hm.nodup_iff.2 List.nodup_range) (by rw [f20];exact hv) hmem
theorem ju7.kt {f:Fc} (hm:(jdi f.blocks).Perm (List.range f.values.length)) {k i:Nat} (h:ju7 idom f.blocks v k i):KT idom (jey f) v k i:=by
 obtain ⟨b,n,h1,h2⟩:=h
 exact ⟨(b,n),qdr hm h1,h2⟩
def gPs (l:List Blk) (k:Nat):SV:=jah ja1 (l.getD k jdf).params
def gIs (l:List Blk) (k:Nat):SV:=jah jc7 (l.getD k jdf).instrs
def gAs (l:List Blk) (k j:Nat):SV:=jah ja1 ((l.getD k jdf).edges.getD j ⟨0,[]⟩).args
theorem qag (a:Nat->SV):∀ (r p:List Ms.Edg),(∀ j,a j=jah ja1 ((p++r).getD j ⟨0,[]⟩).args)->qrc a p.length (r.map (·.block))=r.map jfb
 | [],p,h=>rfl
 | e::r,p,h=>by
  show [si e.block,a p.length]::qrc a (p.length+1) (r.map (·.block))=jfb e::r.map jfb
  have h1:a p.length=jah ja1 e.args:=by
   rw [h,f0d,f04 (f0f _)];simp
  have h2:=qag a r (p++[e]) (fun j=>by rw [h];simp)
  rw [f09] at h2
  rw [h1]
  exact congrArg _ h2
theorem qmo (a:Nat->SV) (l:List Ms.Edg) (h:∀ j,a j=jah ja1 (l.getD j ⟨0,[]⟩).args):qrd a (l.map (·.block))=jah jfb l:=by
 cases l with
 | nil=>rfl
 | cons e r =>
  have:=qag a (e::r) [] (by simpa using h)
  exact congrArg SV.lst this
theorem j3a (l:List Blk):∀ (r p:List Blk),p++r=l->j9x (gPs l) (gIs l) (gAs l) p.length (grL r)=r.map ja0
 | [],p,h=>rfl
 | b::r,p,h=>by
  have hb:l.getD p.length jdf=b:=by rw [←h,f0d,f04 (f0f _)];simp
  show [gPs l p.length,gIs l p.length,qrd (gAs l p.length) (qfz b)]::j9x (gPs l) (gIs l) (gAs l) (p.length+1) (grL r)=ja0 b::r.map ja0
  have h1:qrd (gAs l p.length) (qfz b)=jah jfb b.edges:=qmo _ _ (fun j=>by unfold gAs;rw [hb])
  have h2:=j3a l r (p++[b]) (by rw [←h];simp)
  rw [f09] at h2
  rw [h1]
  unfold gPs gIs
  rw [hb]
  exact congrArg _ h2
theorem j0r {f:Fc} (hne:f.blocks≠[]):[jah ja1 f.values,jah ja0 f.blocks]=qre (grL f.blocks) (jah ja1 f.values) (gPs f.blocks) (gIs f.blocks) (gAs f.blocks):=by
 have h:=j3a f.blocks f.blocks [] rfl
 unfold qre
 rw [show j9x (gPs f.blocks) (gIs f.blocks) (gAs f.blocks) 0 (grL f.blocks)=f.blocks.map ja0 from h]
 cases e:f.blocks with
 | nil=>exact absurd e hne
 | cons b r=>rfl
section
variable {f:Fc} {s:List Bool} {h:Hp} {Q:AV->Hp->Prop}
theorem qds (hs:s.length<=5) (hg:grL f.blocks=gS s) (hne:f.blocks≠[]):jc6 F8 21 [.agg [jah ja1 f.values,jah ja0 f.blocks]] h=some (.s (jah ja1 (j47 s 0)),h) :=
 jbf rfl (by simp only [jas,jav,ja6,jbx,jaw,ja7,ja5,jbh,ja8,jbc,if_true]) (by rw [j0r hne,hg];exact jqi (qti s hs _ _ _ _))
theorem qmp (hs:s.length<=5) (hg:grL f.blocks=gS s) (hne:f.blocks≠[]):jc6 F8 22 [.agg [jah ja1 f.values,jah ja0 f.blocks]] h=some (.s (jah ju6 (jq3 (gS s))),h) :=
 jbf rfl (by simp only [jas,jav,ja6,jbx,jaw,ja7,ja5,jbh,ja8,jbc,if_true]) (by rw [j0r hne,hg];exact jqi (qtj s hs _ _ _ _))
theorem qdt (hs:s.length<=5) (hg:grL f.blocks=gS s) (hne:f.blocks≠[]):jc6 F8 24 [.agg [jah ja1 f.values,jah ja0 f.blocks],.s (jah ja1 (j47 s 0))] h=some (.s (jah jby (jif s)),h) :=
 jbf rfl (by simp only [jas,jav,ja6,jbx,jaw,ja7,ja5,jbh,ja8,jbc,if_true]) (by rw [j0r hne,hg];exact jqi (qtk s hs _ _ _ _))
end
def shp:Nat->List (List Bool)
 | 0=>[[]]
 | n+1=>[]::((shp n).map (false::·)++(shp n).map (true::·))
theorem qah:∀ (n:Nat) (s:List Bool),s.length<=n->s∈shp n
 | 0,s,h=>by
  have:=f1q (Nat.le_zero.1 h)
  subst this;exact f0w.2 rfl
 | n+1,[],h=>by unfold shp;simp
 | n+1,b::s,h=>by
  have:=qah n s (by simpa using h)
  unfold shp
  refine f1d _ (f0g.2 ?_)
  cases b
  ·exact .inl (f16.2 ⟨s,this,rfl⟩)
  ·exact .inr (f16.2 ⟨s,this,rfl⟩)
theorem qmq {P:List Bool->Bool} (h:(shp 5).all P=true) {s:List Bool} (hs:s.length<=5):P s=true:=f28.1 h s (qah 5 s hs)
def qud (g:List (List Nat)):Bool:=g.all (fun es=>es.length<=1||es.all (fun t=>((jq3 g).getD t [0,0]).length<=1))
theorem qdu:(shp 5).all (fun s=>qud (gS s))=true:=by kernel_rfl
theorem jvd:∀ (s:List Bool) (c:Nat),(j47 s c).length=1+3*s.length
 | [],c=>rfl
 | false::s,c=>by simp [j47,jvd s];omega
 | true::s,c=>by simp [j47,jvd s];omega
structure FlOk (m:Nat×Nat) (f:Fc) (s:List Bool):Prop where
 k:FcOk m f
 on:jqh f=0
 hs:s.length<=5
 hg:grL f.blocks=gS s
 hv:f.values≠[]
 us:UsOk (jif s) f
theorem FlOk.hne {m:Nat×Nat} {f:Fc} {s:List Bool} (o:FlOk m f s):f.blocks≠[]:=f1g.1 (by have:=o.k.nb;omega)
theorem FlOk.len {m:Nat×Nat} {f:Fc} {s:List Bool} (o:FlOk m f s):f.blocks.length=1+3*s.length:=by rw [←jeg,o.hg,j9z]
theorem qai {m:Nat×Nat} (m1:2<=m.1/\m.1<=10) (m2:2<=m.2/\m.2<=10) (l:List Pc):∃ s,FlOk m (jer m l) s/\(jdi (jer m l).blocks).Perm (List.range (jer m l).values.length) /\
 (∀ (k i:Nat) (b:Blk) (x:Ms.Ins) (o:Ms.Opd),(jer m l).blocks[k]?=some b->b.instrs[i]?=some x->o∈x.ops->o.kind=1->ju7 (jif s) (jer m l).blocks o.value k i):=by
 obtain ⟨k,kp,_⟩:=j2h m1 m2 l
 obtain ⟨s,h1,h2,h3,h4⟩:=j48 m1 m2 l
 have hv:(jer m l).values≠[]:=by
  obtain ⟨b,g,c,n,_⟩:=((jkk m1 m2).pieces (l.take 24)).bd.lay ⟨0,0,1,0,0,0,3⟩
  obtain ⟨_,_,_,_,_,_,_,_,cs,e1,e2,_⟩:=qit ((jkk m1 m2).pieces (l.take 24)).v ⟨0,0,1,0,0,0,3⟩
  have:(jer m l).values=(jcf ((l.take 24).foldl jbp (jbs m)) ⟨0,0,1,0,0,0,3⟩).values:=rfl
  rw [this,e2]
  rcases e1 with rfl | rfl<;>simp
 refine ⟨s,⟨k,qdl kp,h1,h2,hv,⟨by have:=k.nb;omega,fun b hb=>by have:=k.blk b hb;omega,fun a i b x hb hx=>⟨(k.ins b (f0c hb) x (f0c hx)).nops,fun o ho hk=>ju7.kt kp (h3 a i b x o hb hx ho hk)⟩,fun a b e hb he=>⟨?_,fun v hv=>ju7.kt kp (h4 a b e v hb he hv)⟩⟩⟩,kp,h3⟩
 obtain ⟨_,_,t,h5,h6,_⟩:=k.edg b (f0c hb) e he
 have h7:=(k.blk t (f0c h5)).1
 have:=congrArg List.length h6
 simp only [f1l] at this
 omega
def S10 (f:FuncId):Bool:=Nat.beq f 23
noncomputable def F10:Fns:=PX S10 F9
theorem qtl {A:Nat->Int}:Env Try.prog A tys F10:=jfr qvi
theorem que {f:FuncId} (h1:S1 f=false) (h2:Nat.beq f jex.f=false) (h3:S3 f=false) (h4:S4 f=false) (h5:S5 f=false) (h6:S6 f=false) (h7:S7 f=false) (h8:S8 f=false) (h9:S9 f=false) (h10:S10 f=false) {h:Hp}:jc6 F10 f vs h=none:=(ja4 h10).trans (no9 h1 h2 h3 h4 h5 h6 h7 h8 h9)
section
variable {h:Hp} {m:Nat×Nat} {f:Fc} {s:List Bool} {Q:AV->Hp->Prop}
theorem qgb {g:FuncId} (h9:S9 g=false) (h10:S10 g=false):jc6 F10 g vs h=jc6 F8 g vs h:=(ja4 h10).trans (ja4 h9)
theorem qdv (o:FlOk m f s) (m1:2<=m.1/\m.1<=10) (m2:2<=m.2/\m.2<=10):WC F10 20 [.agg [jah ja1 f.values,jah ja0 f.blocks],.agg [si m.1,si m.2]] h Q=Q (vi 0) h :=
 jaq ((qgb rfl rfl).trans ((ja4 rfl).trans (by rw [qpc o.k m1 m2,o.on];rfl)))
theorem jsd (o:FlOk m f s):WC F10 21 [.agg [jah ja1 f.values,jah ja0 f.blocks]] h Q=Q (.s (jah ja1 (j47 s 0))) h:=jaq ((qgb rfl rfl).trans (qds o.hs o.hg o.hne))
theorem qaj (o:FlOk m f s):WC F10 22 [.agg [jah ja1 f.values,jah ja0 f.blocks]] h Q=Q (.s (jah ju6 (jq3 (gS s)))) h:=jaq ((qgb rfl rfl).trans (qmp o.hs o.hg o.hne))
theorem j49 (o:FlOk m f s):WC F10 24 [.agg [jah ja1 f.values,jah ja0 f.blocks],.s (jah ja1 (j47 s 0))] h Q=Q (.s (jah jby (jif s))) h:=jaq ((qgb rfl rfl).trans (qdt o.hs o.hg o.hne))
theorem qdw (o:FlOk m f s):WC F10 23 [.agg [jah ja1 f.values,jah ja0 f.blocks],.s (jah jby (jif s))] h Q=Q (vb true) h :=
 jaq (jbf rfl (by simp only [jas,jav,ja6,jbx,jaw,ja7,ja5,jbh,ja8,jbc,if_true]) (qmn jde o.us (by have:=o.k.nv;omega) o.hv (j9u o.k)))
end
theorem FlOk.pred {m:Nat×Nat} {f:Fc} {s:List Bool} (o:FlOk m f s) {b:Blk} (hb:b∈f.blocks) (h:1<b.edges.length) {e:Ms.Edg} (he:e∈b.edges):∃ pl,(jq3 (gS s))[e.block]?=some pl/\pl.length<=1:=by
 have h1:=qmq qdu o.hs
 unfold qud at h1
 rw [f28] at h1
 have h2:=h1 (qfz b) (by rw [←o.hg];exact f16.2 ⟨b,hb,rfl⟩)
 simp only [f3c,decide_eq_true_eq,f28] at h2
 have h3:=h2.resolve_left (by unfold qfz;rw [f1l];omega) e.block (f16.2 ⟨e,he,rfl⟩)
 rw [f0d] at h3
 cases hq:(jq3 (gS s))[e.block]? with
 | none=>rw [hq] at h3;simp at h3
 | some pl=>rw [hq] at h3;exact ⟨pl,rfl,h3⟩
theorem qak {m:Nat×Nat} {f:Fc} {s:List Bool} (o:FlOk m f s) {b:Blk} (hb:b∈f.blocks) {Q:Ex->St->Prop} :
 ∀ (d j:Nat) (_:j+d=b.edges.length) {hi:Hp} (_:Ok hi) (_:bB<hi.next) (_:hi.get bB=some (.arr [jah ja1 b.params,jah jc7 b.instrs,jah jfb b.edges] 36)) {x4 x5 x8:AV}
  (hQ:∀ hj x4 x5 x8,Ok hj->hi.next<=hj.next->(∀ n,n<hi.next->hj.get n=hi.get n)->Q (.exit 2) (.mk [x0,x1,x2,x3,x4,x5,.s (jah ju6 (jq3 (gS s))),.s (jah jfb b.edges),x8,vi b.edges.length,vi b.edges.length,.s (.ptr bB 0),x12,x13,x14,x15,x16,x17,x18,x19,x20] hj)),
  W F10 jks.loop (.mk [x0,x1,x2,x3,x4,x5,.s (jah ju6 (jq3 (gS s))),.s (jah jfb b.edges),x8,vi b.edges.length,vi j,.s (.ptr bB 0),x12,x13,x14,x15,x16,x17,x18,x19,x20] hi) Q
 | 0,j,hd,hi,ok,hB,xB,x4,x5,x8,hQ=>by
  obtain rfl:j=b.edges.length:=by omega
  rw [jam]
  unfold jks
  simp (disch:=first|omega|rfl|apply_rules[jaa,jab,jad]) only [go_sem,f05]
  exact hQ hi _ _ _ ok (f0f _) (fun _ _=>rfl)
 | d+1,j,hd,hi,ok,hB,xB,x4,x5,x8,hQ=>by
  have hlt:(j:Int)<(b.edges.length:Int):=by omega
  have hne:=(o.k.blk b hb).2.2
  obtain ⟨e,hio⟩:∃ y,b.edges[j]?=some y:=⟨_,f0b (by omega)⟩
  have hix:=jaj (enc:=jfb) (size:=2) hio rfl
  have hs:(j:Int)+1=((j+1:Nat):Int):=by omega
  obtain ⟨hA,eA,okA,nA,xA,gA⟩:=jcq ok [.int .i64 0,.nilSlice] (jfb e) 53
  have yB:=(gA _ hB).trans xB
  have l2:=jai (enc:=jfb) (l:=b.edges)
  unfold jfb at xA eA
  rw [jam]
  unfold jks jxv
  by_cases h1:1<b.edges.length
  ·have c1:(1<(b.edges.length:Int))=True:=by simp;omega
   obtain ⟨pl,h2,h3⟩:=o.pred hb h1 (f0c hio)
   have hxp:=jaj (enc:=ju6) (size:=1) h2 rfl
   have l3:=jai (enc:=ja1) (l:=pl)
   have c2:(1<(pl.length:Int))=False:=by simp;omega
   simp (disch:=first|omega|rfl|apply_rules[jaa,jab,jad]) only [go_sem,jag,eq_true hlt,hix,jfb,eA,xA,yB,l2,c1,hxp,ju6,l3,c2,hs]
   exact qak o hb d (j+1) (by omega) okA (by omega) yB (fun hj x4 x5 x8 ok' n g=>hQ hj x4 x5 x8 ok' (by omega) (fun q hq=>(g q (by omega)).trans (gA q hq)))
  ·have c1:(1<(b.edges.length:Int))=False:=by simp;omega
   simp (disch:=first|omega|rfl|apply_rules[jaa,jab,jad]) only [go_sem,jag,eq_true hlt,hix,jfb,eA,xA,yB,l2,c1,hs]
   exact qak o hb d (j+1) (by omega) okA (by omega) yB (fun hj x4 x5 x8 ok' n g=>hQ hj x4 x5 x8 ok' (by omega) (fun q hq=>(g q (by omega)).trans (gA q hq)))
theorem qgc {m:Nat×Nat} {f:Fc} {s:List Bool} (o:FlOk m f s) {bF:Nat} {Q:Ex->St->Prop} :
 ∀ (d j:Nat) (_:j+d=f.blocks.length) {hi:Hp} (_:Ok hi) (_:bF<hi.next) {x4 x5 x7 x8 x9 x10 x11 x13:AV}
  (hQ:∀ hj x4 x5 x7 x8 x9 x10 x11 x13,Ok hj->hi.next<=hj.next->hj.get bF=hi.get bF->Q (.exit 0) (.mk [x0,x1,x2,x3,x4,x5,.s (jah ju6 (jq3 (gS s))),x7,x8,x9,x10,x11,.s (jah ja0 f.blocks),x13,vi f.blocks.length,vi f.blocks.length,x16,x17,x18,x19,.s (.ptr bF 0)] hj)),
  W F10 jkt.loop (.mk [x0,x1,x2,x3,x4,x5,.s (jah ju6 (jq3 (gS s))),x7,x8,x9,x10,x11,.s (jah ja0 f.blocks),x13,vi f.blocks.length,vi j,x16,x17,x18,x19,.s (.ptr bF 0)] hi) Q
 | 0,j,hd,hi,ok,hB,x4,x5,x7,x8,x9,x10,x11,x13,hQ=>by
  obtain rfl:j=f.blocks.length:=by omega
  rw [jam]
  unfold jkt
  simp (disch:=first|omega|rfl|apply_rules[jaa,jab,jad]) only [go_sem,f05]
  exact hQ hi _ _ _ _ _ _ _ _ ok (f0f _) rfl
 | d+1,j,hd,hi,ok,hB,x4,x5,x7,x8,x9,x10,x11,x13,hQ=>by
  have nb:=o.k.nb
  have hlt:(j:Int)<(f.blocks.length:Int):=by omega
  obtain ⟨b,hio⟩:∃ y,f.blocks[j]?=some y:=⟨_,f0b (by omega)⟩
  have hbm:=f0c hio
  have hix:=jaj (enc:=ja0) (size:=3) hio rfl
  have hs:(j:Int)+1=((j+1:Nat):Int):=by omega
  obtain ⟨hA,eA,okA,nA,xA,gA⟩:=jcq ok [.nilSlice,.nilSlice,.nilSlice] (ja0 b) 36
  have l2:=jai (enc:=jfb) (l:=b.edges)
  unfold ja0 at xA eA
  rw [jam]
  unfold jkt jxw
  simp (disch:=first|omega|rfl|apply_rules[jaa,jab,jad]) only [go_sem,jag,eq_true hlt,hix,ja0,eA,xA,l2]
  refine qak o hbm b.edges.length 0 (by omega) okA (by omega) xA (fun hj x4 x5 x8 ok' n g=>?_)
  simp (disch:=first|omega|rfl|apply_rules[jaa,jab,jad]) only [go_sem,jag,hs]
  exact qgc o d (j+1) (by omega) ok' (by omega) (fun hk x4 x5 x7 x8 x9 x10 x11 x13 o' n' g'=>hQ hk x4 x5 x7 x8 x9 x10 x11 x13 o' (by omega) (g'.trans ((g _ (by omega)).trans (gA _ hB))))
theorem qmr {h:Hp} (ok:Ok h) {m:Nat×Nat} {f:Fc} {s:List Bool} (o:FlOk m f s) (m1:2<=m.1/\m.1<=10) (m2:2<=m.2/\m.2<=10):WC F10 11 [.agg [jah ja1 f.values,jah ja0 f.blocks],.agg [si m.1,si m.2]] h (fun v h'=>∃ d,jgb true h' d v=some (vi 0)):=by
 refine jba (que rfl rfl rfl rfl rfl rfl rfl rfl rfl rfl) qju rfl ?_
 unfold j28
 obtain ⟨hA,eA,okA,nA,xA,gA⟩:=jet ok [jah ja1 f.values,jah ja0 f.blocks] 26
 obtain ⟨hB,eB,okB,nB,xB,gB⟩:=jet okA [si m.1,si m.2] 30
 have yA:=(gB _ (by omega)).trans xA
 rw [nA] at xB
 have l2:=jai (enc:=ja0) (l:=f.blocks)
 have l3:=jai (enc:=ja1) (l:=j47 s 0)
 have c1:(((j47 s 0).length:Int)<(f.blocks.length:Int))=False:=eq_false (by rw [jvd,o.len];omega)
 have hh:(hB.next<=h.next/\h.next<hB.next)=False:=eq_false (by omega)
 simp (disch:=first|omega|rfl|apply_rules[jaa,jab,jad]) only [go_sem,eA,eB,nA,yA,xB,qdv o m1 m2]
 unfold jx0 jxu
 simp (disch:=first|omega|rfl|apply_rules[jaa,jab,jad]) only [go_sem,yA,xB,jsd o,l3,l2,c1,hh]
 unfold jxz
 simp (disch:=first|omega|rfl|apply_rules[jaa,jab,jad]) only [go_sem,yA,qaj o,l2]
 refine qgc o f.blocks.length 0 (by omega) okB (by omega) (fun hj x4 x5 x7 x8 x9 x10 x11 x13 o' n g=>?_)
 have zA:=g.trans yA
 have hh:(hj.next<=h.next/\h.next<hj.next)=False:=eq_false (by omega)
 unfold jxx
 simp (disch:=first|omega|rfl|apply_rules[jaa,jab,jad]) only [go_sem,zA,jsd o,j49 o,qdw o,hh]
 unfold jxy
 simp (disch:=first|omega|rfl|apply_rules[jaa,jab,jad]) only [go_sem]
 exact ⟨1,rfl⟩
def S11 (f:FuncId):Bool:=Nat.beq f 11
noncomputable def F11:Fns:=PX S11 F10
theorem qtm {A:Nat->Int}:Env Try.prog A tys F11:=jfr qtl
theorem qrg {f:FuncId} (h1:S1 f=false) (h2:Nat.beq f jex.f=false) (h3:S3 f=false) (h4:S4 f=false) (h5:S5 f=false) (h6:S6 f=false) (h7:S7 f=false) (h8:S8 f=false) (h9:S9 f=false) (h10:S10 f=false) (h11:S11 f=false) {h:Hp}:jc6 F11 f vs h=none:=(ja4 h11).trans (que h1 h2 h3 h4 h5 h6 h7 h8 h9 h10)
section
variable {h:Hp} {m:Nat×Nat} {f:Fc} {s:List Bool} {Q:AV->Hp->Prop}
theorem qms (o:FlOk m f s) (m1:2<=m.1/\m.1<=10) (m2:2<=m.2/\m.2<=10):jc6 F11 11 [.agg [jah ja1 f.values,jah ja0 f.blocks],.agg [si m.1,si m.2]] h=some (vi 0,h):=jbf rfl (by simp only [jas,jav,ja6,jbx,jaw,ja7,ja5,jbh,ja8,jbc,if_true]) (qmr jde o m1 m2)
end
theorem jku {α:Type} {h:Hp} {d:Nat} {enc:α->List SV} {l:List α}:jiv true h (d+1) (jah enc l)=some (jah enc l):=by cases l<;>rfl
section
variable {h:Hp} {m:Nat×Nat} {f:Fc} {s:List Bool} {Q:AV->Hp->Prop}
end
end Go.Proofs.Ytokcdoklcbgigaa.Ev
