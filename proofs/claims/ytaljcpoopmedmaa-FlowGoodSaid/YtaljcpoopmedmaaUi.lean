/- Is each value made where it is used? What the code tells. -/
import Derived.Test.YtaljcpoopmedmaaUe
import Derived.Test.YtaljcpoopmedmaaGT1
import Derived.Test.YtaljcpoopmedmaaGT3
import Derived.Test.YtaljcpoopmedmaaGT5
import Derived.Test.YtaljcpoopmedmaaGT7
namespace Go.Proofs.Ytaljcpoopmedmaa.Ev
open Go Go.RowKit Go.Proofs.Ytaljcpoopmedmaa.Ms
attribute [local go_sem] Int.cast_ofNat_Int Int.natCast_zero Int.natCast_one decide_eq_true_eq decide_eq_false_iff_not Bool.false_eq_true and_true true_and List.cons_append List.nil_append reduceCtorEq decide_true decide_false Bool.not_true Bool.not_false Nat.add_zero Nat.zero_add Option.some.injEq Bool.true_eq_false not_true_eq_false not_false_eq_true Hp.next_push Hp.next_put Nat.add_assoc Int.reduceToNat Nat.reduceAdd Nat.reduceMul Nat.reduceEqDiff Int.reduceEq Int.reduceLT Int.reduceLE Int.reduceNeg Int.reduceAdd Int.reduceSub Int.reduceMul Int.reduceNe
attribute [local go_sem ↓] reduceIte
set_option linter.all false
set_option maxRecDepth 100000
set_option maxHeartbeats 2000000
def S8 (f:FuncId):Bool:=Nat.beq f 74||(Nat.beq f 61||(Nat.beq f 38||(Nat.beq f 39||(Nat.beq f 41||Nat.beq f 42))))
noncomputable def F8:Fns:=PX S8 F7
theorem quv {A:Nat->Int}:Env Try.prog A tys F8:=jgx qto
theorem no8 {f:FuncId} (h1:S1 f=false) (h2:Nat.beq f jes.f=false) (h3:S3 f=false) (h4:S4 f=false) (h5:S5 f=false) (h6:S6 f=false) (h7:S7 f=false) (h8:S8 f=false) {vs:List AV} {h:Hp}:jdp F8 f vs h=none:=(ja3 h8).trans (no7 h1 h2 h3 h4 h5 h6 h7)
def S9 (f:FuncId):Bool:=Nat.beq f 62
noncomputable def F9:Fns:=PX S9 F8
theorem quw {A:Nat->Int}:Env Try.prog A tys F9:=jgx quv
theorem no9 {f:FuncId} (h1:S1 f=false) (h2:Nat.beq f jes.f=false) (h3:S3 f=false) (h4:S4 f=false) (h5:S5 f=false) (h6:S6 f=false) (h7:S7 f=false) (h8:S8 f=false) (h9:S9 f=false) {vs:List AV} {h:Hp}:jdp F9 f vs h=none:=(ja3 h9).trans (no8 h1 h2 h3 h4 h5 h6 h7 h8)
theorem qln {h:Hp} {Q:AV->Hp->Prop} {idom:List Int} {a:Nat} {b:Int} (hd:Dom idom a b):WC F8 74 [.s (jah jeo idom),vi a,vi b] h Q=Q (vb true) h :=
 jao (jbb rfl (by simp only [jau,jaz,ja6,jb8,ja0,ja7,ja5,jbk,ja8,jbg,if_true]) (qh1 jcz hd))
def KP (idom:List Int) (p:Nat×Int) (k:Nat) (i:Nat):Prop:=(p.1=k/\p.2<(i:Int))∨(p.1≠k/\Dom idom p.1 k)
theorem j83 {h:Hp} (ok:Ok h) {idom:List Int} {a k i:Nat} {n:Int} (hk:KP idom (a,n) k i):WC F8 62 [.s (jah jeo idom),.agg [si a,si n],.agg [si k,si i]] h (fun v h'=>∃ d,jgu true h' d v=some (vb true)):=by
 refine jba (no8 rfl rfl rfl rfl rfl rfl rfl rfl) qh0 rfl ?_
 unfold j2m
 obtain ⟨hA,eA,okA,nA,xA,gA⟩:=jet ok [si a,si n] 109
 obtain ⟨hB,eB,okB,nB,xB,gB⟩:=jet okA [si k,si i] 109
 have yA:=(gB _ (by omega)).trans xA
 rw [nA] at xB
 rcases hk with ⟨h1,h2⟩ | ⟨h1,h2⟩
 ·simp only at h1 h2
  have c1:((a:Int)=(k:Int))=True:=by simp;omega
  have c2:(n<(i:Int))=True:=eq_true h2
  simp (maxSteps:=1000000) (disch:=first|omega|assumption|(simp only [List.length];done)|exact jaa|((repeat (first|apply jac|apply jad));assumption)) only [go_sem,eA,nA,eB,yA,xB,c1,c2]
  exact ⟨1,rfl⟩
 ·simp only at h1 h2
  have c1:((a:Int)=(k:Int))=False:=by simp;omega
  simp (maxSteps:=1000000) (disch:=first|omega|assumption|(simp only [List.length];done)|exact jaa|((repeat (first|apply jac|apply jad));assumption)) only [go_sem,eA,nA,eB,yA,xB,c1]
  unfold jxe
  simp (maxSteps:=1000000) (disch:=first|omega|assumption|(simp only [List.length];done)|exact jaa|((repeat (first|apply jac|apply jad));assumption)) only [go_sem,yA,xB,qln h2]
  exact ⟨1,rfl⟩
theorem jxm {h:Hp} {Q:AV->Hp->Prop} {idom:List Int} {a k i:Nat} {n:Int} (hk:KP idom (a,n) k i):WC F9 62 [.s (jah jeo idom),.agg [si a,si n],.agg [si k,si i]] h Q=Q (vb true) h :=
 jao (jbb rfl (by simp only [jau,jaz,ja6,jb8,ja0,ja7,ja5,jbk,ja8,jbg,if_true]) (j83 jcz hk))
def KT (idom:List Int) (T:List (Nat×Int)) (v k i:Nat):Prop:=∃ p,T[v]?=some p/\KP idom p k i
theorem j84 {idom:List Int} {T:List (Nat×Int)} {l:List Ms.Opd} {k i:Nat} (hl:l.length<=10000) (hp:∀ o∈l,o.kind=1->KT idom T o.value k i) {x0 x2 x3 x4 x5 x6 x7 x8 x9 x10 x11 x12 x13 x23 x24 x25 x26 x27 x28 x29 x30 x31 x32 x33:AV} {Q:Ex->St->Prop} :
 ∀ (d j:Nat) (_:j+d=l.length) {hi:Hp} (_:Ok hi) {x14 x18 x20:AV}
  (hQ:∀ hj x14 x18 x20,Ok hj->hi.next<=hj.next->(∀ n,n<hi.next->hj.get n=hi.get n)->Q (.exit 4) (.mk [x0,.s (jah jeo idom),x2,x3,x4,x5,x6,x7,x8,x9,x10,x11,x12,x13,x14,vi i,vi k,.s (jah ji0 T),x18,.s (jah jbl l),x20,vi l.length,vi l.length,x23,x24,x25,x26,x27,x28,x29,x30,x31,x32,x33] hj)),
  W F9 jks.loop (.mk [x0,.s (jah jeo idom),x2,x3,x4,x5,x6,x7,x8,x9,x10,x11,x12,x13,x14,vi i,vi k,.s (jah ji0 T),x18,.s (jah jbl l),x20,vi l.length,vi j,x23,x24,x25,x26,x27,x28,x29,x30,x31,x32,x33] hi) Q
 | 0,j,hd,hi,ok,x14,x18,x20,hQ=>by
  obtain rfl:j=l.length:=by omega
  rw [jan]
  unfold jks
  simp (maxSteps:=1000000) (disch:=first|omega|assumption|(simp only [List.length];done)|exact jaa|((repeat (first|apply jac|apply jad));assumption)) only [go_sem,Int.lt_irrefl]
  exact hQ hi _ _ _ ok (Nat.le_refl _) (fun _ _=>rfl)
 | d+1,j,hd,hi,ok,x14,x18,x20,hQ=>by
  have hlt:(j:Int)<(l.length:Int):=by omega
  obtain ⟨o,hio⟩:∃ y,l[j]?=some y:=⟨_,List.getElem?_eq_getElem (by omega)⟩
  have ho:=hp o (List.mem_of_getElem? hio)
  have hix:=jak (enc:=jbl) (size:=5) hio rfl
  have hs:(j:Int)+1=((j+1:Nat):Int):=by omega
  obtain ⟨hA,eA,okA,nA,xA,gA⟩:=jbz ok [.int .i64 0,.int .i64 0,.bool false,.int .i64 0,.int .i64 0] (jbl o) 48
  unfold jbl at xA eA
  rw [jan]
  unfold jks jw8
  by_cases e:o.kind=1
  ·have c1:((o.kind:Int)=1)=True:=by simp;omega
   obtain ⟨⟨pb,pn⟩,h1,h2⟩:=ho e
   have hxs:=jak (enc:=ji0) (size:=2) h1 rfl
   simp (maxSteps:=1000000) (disch:=first|omega|assumption|(simp only [List.length];done)|exact jaa|((repeat (first|apply jac|apply jad));assumption)) only [go_sem,jag,eq_true hlt,hix,jbl,eA,xA,c1,hxs,ji0,jxm h2,hs]
   exact j84 hl hp d (j+1) (by omega) okA (fun hj x14 x18 x20 o n g=>hQ hj x14 x18 x20 o (by omega) (fun m hm=>(g m (by omega)).trans (gA m hm)))
  ·have c1:((o.kind:Int)=1)=False:=by simp;omega
   simp (maxSteps:=1000000) (disch:=first|omega|assumption|(simp only [List.length];done)|exact jaa|((repeat (first|apply jac|apply jad));assumption)) only [go_sem,jag,eq_true hlt,hix,jbl,eA,xA,c1,hs]
   exact j84 hl hp d (j+1) (by omega) okA (fun hj x14 x18 x20 o n g=>hQ hj x14 x18 x20 o (by omega) (fun m hm=>(g m (by omega)).trans (gA m hm)))
theorem qeg {idom:List Int} {T:List (Nat×Int)} {l:List Ms.Ins} {k:Nat} (hl:l.length<=10000) (hp:∀ (i:Nat) (x:Ms.Ins),l[i]?=some x->x.ops.length<=6/\∀ o∈x.ops,o.kind=1->KT idom T o.value k i) {x0 x2 x3 x4 x5 x6 x7 x8 x9 x10 x11 x12 x13 x28 x29 x30 x31 x32 x33:AV} {Q:Ex->St->Prop} :
 ∀ (d j:Nat) (_:j+d=l.length) {hi:Hp} (_:Ok hi) {x14 x15 x18 x19 x20 x21 x22 x23 x25:AV}
  (hQ:∀ hj x14 x15 x18 x19 x20 x21 x22 x23 x25,Ok hj->hi.next<=hj.next->(∀ n,n<hi.next->hj.get n=hi.get n)->Q (.exit 2) (.mk [x0,.s (jah jeo idom),x2,x3,x4,x5,x6,x7,x8,x9,x10,x11,x12,x13,x14,x15,vi k,.s (jah ji0 T),x18,x19,x20,x21,x22,x23,.s (jah jft l),x25,vi l.length,vi l.length,x28,x29,x30,x31,x32,x33] hj)),
  W F9 jkt.loop (.mk [x0,.s (jah jeo idom),x2,x3,x4,x5,x6,x7,x8,x9,x10,x11,x12,x13,x14,x15,vi k,.s (jah ji0 T),x18,x19,x20,x21,x22,x23,.s (jah jft l),x25,vi l.length,vi j,x28,x29,x30,x31,x32,x33] hi) Q
 | 0,j,hd,hi,ok,x14,x15,x18,x19,x20,x21,x22,x23,x25,hQ=>by
  obtain rfl:j=l.length:=by omega
  rw [jan]
  unfold jkt
  simp (maxSteps:=1000000) (disch:=first|omega|assumption|(simp only [List.length];done)|exact jaa|((repeat (first|apply jac|apply jad));assumption)) only [go_sem,Int.lt_irrefl]
  exact hQ hi _ _ _ _ _ _ _ _ _ ok (Nat.le_refl _) (fun _ _=>rfl)
 | d+1,j,hd,hi,ok,x14,x15,x18,x19,x20,x21,x22,x23,x25,hQ=>by
  have hlt:(j:Int)<(l.length:Int):=by omega
  obtain ⟨x,hio⟩:∃ y,l[j]?=some y:=⟨_,List.getElem?_eq_getElem (by omega)⟩
  obtain ⟨hx1,hx2⟩:=hp j x hio
  have hix:=jak (enc:=jft) (size:=3) hio rfl
  have hs:(j:Int)+1=((j+1:Nat):Int):=by omega
  obtain ⟨hA,eA,okA,nA,xA,gA⟩:=jbz ok [.int .i64 0,.nilSlice,.nilSlice] (jft x) 46
  have l1:=jaj (enc:=jbl) (l:=x.ops)
  unfold jft at xA eA
  rw [jan]
  unfold jkt jw9
  simp (maxSteps:=1000000) (disch:=first|omega|assumption|(simp only [List.length];done)|exact jaa|((repeat (first|apply jac|apply jad));assumption)) only [go_sem,jag,eq_true hlt,hix,jft,eA,xA,l1]
  refine j84 (by omega) hx2 x.ops.length 0 (by omega) okA (fun hj x14 x18 x20 o n g=>?_)
  simp (maxSteps:=1000000) (disch:=first|omega|assumption|(simp only [List.length];done)|exact jaa|((repeat (first|apply jac|apply jad));assumption)) only [go_sem,jag,hs]
  exact qeg hl hp d (j+1) (by omega) o (fun hk x14 x15 x18 x19 x20 x21 x22 x23 x25 o' n' g'=>hQ hk x14 x15 x18 x19 x20 x21 x22 x23 x25 o' (by omega) (fun m hm=>(g' m (by omega)).trans ((g m (by omega)).trans (gA m hm))))
theorem qeh {idom:List Int} {T:List (Nat×Int)} {l:List Nat} {b:Blk} {k bB:Nat} (hl:l.length<=10000) (hp:∀ v∈l,KT idom T v k b.instrs.length) {x0 x2 x9 x10 x11 x12 x13 x14 x15 x18 x19 x20 x21 x22 x23 x24 x25 x26 x27 x29 x30 x31 x32 x33:AV} {Q:Ex->St->Prop} :
 ∀ (d j:Nat) (_:j+d=l.length) {hi:Hp} (_:Ok hi) (_:hi.get bB=some (.arr [jah jas b.params,jah jft b.instrs,jah jem b.edges] 36)) {x3 x4 x6:AV}
  (hQ:∀ x3 x4 x6,Q (.exit 8) (.mk [x0,.s (jah jeo idom),x2,x3,x4,.s (jah jas l),x6,vi l.length,vi l.length,x9,x10,x11,x12,x13,x14,x15,vi k,.s (jah ji0 T),x18,x19,x20,x21,x22,x23,x24,x25,x26,x27,.s (.ptr bB 0),x29,x30,x31,x32,x33] hi)),
  W F9 jku.loop (.mk [x0,.s (jah jeo idom),x2,x3,x4,.s (jah jas l),x6,vi l.length,vi j,x9,x10,x11,x12,x13,x14,x15,vi k,.s (jah ji0 T),x18,x19,x20,x21,x22,x23,x24,x25,x26,x27,.s (.ptr bB 0),x29,x30,x31,x32,x33] hi) Q
 | 0,j,hd,hi,ok,xB,x3,x4,x6,hQ=>by
  obtain rfl:j=l.length:=by omega
  rw [jan]
  unfold jku
  simp (maxSteps:=1000000) (disch:=first|omega|assumption|(simp only [List.length];done)|exact jaa|((repeat (first|apply jac|apply jad));assumption)) only [go_sem,Int.lt_irrefl]
  exact hQ _ _ _
 | d+1,j,hd,hi,ok,xB,x3,x4,x6,hQ=>by
  have hlt:(j:Int)<(l.length:Int):=by omega
  obtain ⟨v,hio⟩:∃ y,l[j]?=some y:=⟨_,List.getElem?_eq_getElem (by omega)⟩
  obtain ⟨⟨pb,pn⟩,h1,h2⟩:=hp v (List.mem_of_getElem? hio)
  have hix:=jak (enc:=jas) (size:=1) hio rfl
  have hxs:=jak (enc:=ji0) (size:=2) h1 rfl
  have hs:(j:Int)+1=((j+1:Nat):Int):=by omega
  have l1:=jaj (enc:=jft) (l:=b.instrs)
  rw [jan]
  unfold jku jxb jxa
  simp (maxSteps:=1000000) (disch:=first|omega|assumption|(simp only [List.length];done)|exact jaa|((repeat (first|apply jac|apply jad));assumption)) only [go_sem,jag,eq_true hlt,hix,jas,hxs,ji0,xB,l1,jxm h2,hs]
  exact qeh hl hp d (j+1) (by omega) ok xB hQ
theorem qei {idom:List Int} {T:List (Nat×Int)} {l:List Ms.Edg} {b:Blk} {k bB:Nat} (hl:l.length<=10000) (hp:∀ e∈l,e.args.length<=10000/\∀ v∈e.args,KT idom T v k b.instrs.length) {x0 x2 x14 x15 x18 x19 x20 x21 x22 x23 x24 x25 x26 x27 x29 x30 x31 x32 x33:AV} {Q:Ex->St->Prop} :
 ∀ (d j:Nat) (_:j+d=l.length) {hi:Hp} (_:Ok hi) (_:bB<hi.next) (_:hi.get bB=some (.arr [jah jas b.params,jah jft b.instrs,jah jem b.edges] 36)) {x3 x4 x5 x6 x7 x8 x9 x11:AV}
  (hQ:∀ hj x3 x4 x5 x6 x7 x8 x9 x11,Ok hj->hi.next<=hj.next->(∀ n,n<hi.next->hj.get n=hi.get n)->Q (.exit 6) (.mk [x0,.s (jah jeo idom),x2,x3,x4,x5,x6,x7,x8,x9,.s (jah jem l),x11,vi l.length,vi l.length,x14,x15,vi k,.s (jah ji0 T),x18,x19,x20,x21,x22,x23,x24,x25,x26,x27,.s (.ptr bB 0),x29,x30,x31,x32,x33] hj)),
  W F9 jkv.loop (.mk [x0,.s (jah jeo idom),x2,x3,x4,x5,x6,x7,x8,x9,.s (jah jem l),x11,vi l.length,vi j,x14,x15,vi k,.s (jah ji0 T),x18,x19,x20,x21,x22,x23,x24,x25,x26,x27,.s (.ptr bB 0),x29,x30,x31,x32,x33] hi) Q
 | 0,j,hd,hi,ok,hb,xB,x3,x4,x5,x6,x7,x8,x9,x11,hQ=>by
  obtain rfl:j=l.length:=by omega
  rw [jan]
  unfold jkv
  simp (maxSteps:=1000000) (disch:=first|omega|assumption|(simp only [List.length];done)|exact jaa|((repeat (first|apply jac|apply jad));assumption)) only [go_sem,Int.lt_irrefl]
  exact hQ hi _ _ _ _ _ _ _ _ ok (Nat.le_refl _) (fun _ _=>rfl)
 | d+1,j,hd,hi,ok,hb,xB,x3,x4,x5,x6,x7,x8,x9,x11,hQ=>by
  have hlt:(j:Int)<(l.length:Int):=by omega
  obtain ⟨e,hio⟩:∃ y,l[j]?=some y:=⟨_,List.getElem?_eq_getElem (by omega)⟩
  obtain ⟨he1,he2⟩:=hp e (List.mem_of_getElem? hio)
  have hix:=jak (enc:=jem) (size:=2) hio rfl
  have hs:(j:Int)+1=((j+1:Nat):Int):=by omega
  obtain ⟨hA,eA,okA,nA,xA,gA⟩:=jbz ok [.int .i64 0,.nilSlice] (jem e) 51
  have yB:=(gA _ hb).trans xB
  have l1:=jaj (enc:=jas) (l:=e.args)
  unfold jem at xA eA
  rw [jan]
  unfold jkv jxc
  simp (maxSteps:=1000000) (disch:=first|omega|assumption|(simp only [List.length];done)|exact jaa|((repeat (first|apply jac|apply jad));assumption)) only [go_sem,jag,eq_true hlt,hix,jem,eA,xA,l1]
  refine qeh he1 he2 e.args.length 0 (by omega) okA yB (fun x3 x4 x6=>?_)
  simp (maxSteps:=1000000) (disch:=first|omega|assumption|(simp only [List.length];done)|exact jaa|((repeat (first|apply jac|apply jad));assumption)) only [go_sem,jag,hs]
  exact qei hl hp d (j+1) (by omega) okA (by omega) yB (fun hk x3 x4 x5 x6 x7 x8 x9 x11 o' n' g'=>hQ hk x3 x4 x5 x6 x7 x8 x9 x11 o' (by omega) (fun m hm=>(g' m (by omega)).trans (gA m hm)))
structure UsOk (idom:List Int) (f:Fc):Prop where
 nb:f.blocks.length<=10000
 sz:∀ b∈f.blocks,b.instrs.length<=10000/\b.edges.length<=10000
 us:∀ (k i:Nat) (b:Blk) (x:Ms.Ins),f.blocks[k]?=some b->b.instrs[i]?=some x->x.ops.length<=6/\∀ o∈x.ops,o.kind=1->KT idom (jeu f) o.value k i
 ed:∀ (k:Nat) (b:Blk) (e:Ms.Edg),f.blocks[k]?=some b->e∈b.edges->e.args.length<=10000/\∀ v∈e.args,KT idom (jeu f) v k b.instrs.length
theorem qej {idom:List Int} {f:Fc} (u:UsOk idom f) {x0 x2 x33:AV} {Q:Ex->St->Prop} :
 ∀ (d j:Nat) (_:j+d=f.blocks.length) {hi:Hp} (_:Ok hi) {x3 x4 x5 x6 x7 x8 x9 x10 x11 x12 x13 x14 x15 x16 x18 x19 x20 x21 x22 x23 x24 x25 x26 x27 x28 x30:AV}
  (hQ:∀ hj x3 x4 x5 x6 x7 x8 x9 x10 x11 x12 x13 x14 x15 x16 x18 x19 x20 x21 x22 x23 x24 x25 x26 x27 x28 x30,Q (.exit 0) (.mk [x0,.s (jah jeo idom),x2,x3,x4,x5,x6,x7,x8,x9,x10,x11,x12,x13,x14,x15,x16,.s (jah ji0 (jeu f)),x18,x19,x20,x21,x22,x23,x24,x25,x26,x27,x28,.s (jah ja4 f.blocks),x30,vi f.blocks.length,vi f.blocks.length,x33] hj)),
  W F9 jkw.loop (.mk [x0,.s (jah jeo idom),x2,x3,x4,x5,x6,x7,x8,x9,x10,x11,x12,x13,x14,x15,x16,.s (jah ji0 (jeu f)),x18,x19,x20,x21,x22,x23,x24,x25,x26,x27,x28,.s (jah ja4 f.blocks),x30,vi f.blocks.length,vi j,x33] hi) Q
 | 0,j,hd,hi,ok,x3,x4,x5,x6,x7,x8,x9,x10,x11,x12,x13,x14,x15,x16,x18,x19,x20,x21,x22,x23,x24,x25,x26,x27,x28,x30,hQ=>by
  obtain rfl:j=f.blocks.length:=by omega
  rw [jan]
  unfold jkw
  simp (maxSteps:=1000000) (disch:=first|omega|assumption|(simp only [List.length];done)|exact jaa|((repeat (first|apply jac|apply jad));assumption)) only [go_sem,Int.lt_irrefl]
  exact hQ hi ..
 | d+1,j,hd,hi,ok,x3,x4,x5,x6,x7,x8,x9,x10,x11,x12,x13,x14,x15,x16,x18,x19,x20,x21,x22,x23,x24,x25,x26,x27,x28,x30,hQ=>by
  have nb:=u.nb
  have hlt:(j:Int)<(f.blocks.length:Int):=by omega
  obtain ⟨b,hio⟩:∃ y,f.blocks[j]?=some y:=⟨_,List.getElem?_eq_getElem (by omega)⟩
  obtain ⟨s1,s2⟩:=u.sz b (List.mem_of_getElem? hio)
  have hix:=jak (enc:=ja4) (size:=3) hio rfl
  have hs:(j:Int)+1=((j+1:Nat):Int):=by omega
  obtain ⟨hA,eA,okA,nA,xA,gA⟩:=jbz ok [.nilSlice,.nilSlice,.nilSlice] (ja4 b) 36
  have l1:=jaj (enc:=jft) (l:=b.instrs)
  have l2:=jaj (enc:=jem) (l:=b.edges)
  unfold ja4 at xA eA
  rw [jan]
  unfold jkw jxd
  simp (maxSteps:=1000000) (disch:=first|omega|assumption|(simp only [List.length];done)|exact jaa|((repeat (first|apply jac|apply jad));assumption)) only [go_sem,jag,eq_true hlt,hix,ja4,eA,xA,l1]
  refine qeg s1 (fun i x hx=>u.us j i b x hio hx) b.instrs.length 0 (by omega) okA (fun hj x14 x15 x18 x19 x20 x21 x22 x23 x25 o n g=>?_)
  have yA:=(g _ (by omega)).trans xA
  simp (maxSteps:=1000000) (disch:=first|omega|assumption|(simp only [List.length];done)|exact jaa|((repeat (first|apply jac|apply jad));assumption)) only [go_sem,yA,l2]
  refine qei s2 (fun e he=>u.ed j b e hio he) b.edges.length 0 (by omega) o (by omega) yA (fun hk x3 x4 x5 x6 x7 x8 x9 x11 o' n' g'=>?_)
  simp (maxSteps:=1000000) (disch:=first|omega|assumption|(simp only [List.length];done)|exact jaa|((repeat (first|apply jac|apply jad));assumption)) only [go_sem,jag,hs]
  exact qej u d (j+1) (by omega) o' hQ
theorem qlo {h:Hp} {Q:AV->Hp->Prop} {f:Fc} (hl:f.blocks.length<=10000) (hv:f.values.length<=10000) (hne:f.values≠[]) (hp:∀ b∈f.blocks,b.params.length<=10000/\b.instrs.length<=10000/\(∀ v∈b.params,v<f.values.length)/\∀ x∈b.instrs,x.ops.length<=6/\∀ o∈x.ops,o.value<f.values.length) :
 WC F9 61 [.agg [jah jas f.values,jah ja4 f.blocks]] h Q=Q (.s (jah ji0 (jeu f))) h :=
 jao ((ja3 rfl).trans (jbb rfl (by simp only [jau,jaz,ja6,jb8,ja0,ja7,ja5,jbk,ja8,jbg,if_true]) (qh2 jcz hl hv hne hp)))
theorem qlp {h:Hp} (ok:Ok h) {idom:List Int} {f:Fc} (u:UsOk idom f) (hv:f.values.length<=10000) (hne:f.values≠[]) (hp:∀ b∈f.blocks,b.params.length<=10000/\b.instrs.length<=10000/\(∀ v∈b.params,v<f.values.length)/\∀ x∈b.instrs,x.ops.length<=6/\∀ o∈x.ops,o.value<f.values.length) :
 WC F9 40 [.agg [jah jas f.values,jah ja4 f.blocks],.s (jah jeo idom)] h (fun v h'=>∃ d,jgu true h' d v=some (vb true)):=by
 refine jba (no9 rfl rfl rfl rfl rfl rfl rfl rfl rfl) qhz rfl ?_
 unfold j2l
 obtain ⟨hA,eA,okA,nA,xA,gA⟩:=jet ok [jah jas f.values,jah ja4 f.blocks] 26
 have l2:=jaj (enc:=ja4) (l:=f.blocks)
 simp (maxSteps:=1000000) (disch:=first|omega|assumption|(simp only [List.length];done)|exact jaa|((repeat (first|apply jac|apply jad));assumption)) only [go_sem,eA,xA,qlo u.nb hv hne hp,l2]
 refine qej u f.blocks.length 0 (by omega) okA (fun hj x3 x4 x5 x6 x7 x8 x9 x10 x11 x12 x13 x14 x15 x16 x18 x19 x20 x21 x22 x23 x24 x25 x26 x27 x28 x30=>?_)
 simp (maxSteps:=1000000) (disch:=first|omega|assumption|(simp only [List.length];done)|exact jaa|((repeat (first|apply jac|apply jad));assumption)) only [go_sem]
 exact ⟨1,rfl⟩
theorem qsu:∀ (s:List Bool),s.length<=5->oG s
 | [],_=>o_
 | [false],_=>o_f
 | [true],_=>o_t
 | [false,false],_=>qur
 | [false,true],_=>qum
 | [true,false],_=>que
 | [true,true],_=>qui
 | [false,false,false],_=>qsq
 | [false,false,true],_=>qsm
 | [false,true,false],_=>qr2
 | [false,true,true],_=>qry
 | [true,false,false],_=>qse
 | [true,false,true],_=>qsi
 | [true,true,false],_=>qr6
 | [true,true,true],_=>qsa
 | [false,false,false,false],_=>qpr
 | [false,false,false,true],_=>qpf
 | [false,false,true,false],_=>qon
 | [false,false,true,true],_=>qo3
 | [false,true,false,false],_=>qov
 | [false,true,false,true],_=>qpb
 | [false,true,true,false],_=>qob
 | [false,true,true,true],_=>qoj
 | [true,false,false,false],_=>qof
 | [true,false,false,true],_=>qn7
 | [true,false,true,false],_=>qpv
 | [true,false,true,true],_=>qor
 | [true,true,false,false],_=>qpn
 | [true,true,false,true],_=>qoz
 | [true,true,true,false],_=>qo7
 | [true,true,true,true],_=>qpj
 | [false,false,false,false,false],_=>qjv
 | [false,false,false,false,true],_=>qif
 | [false,false,false,true,false],_=>qlj
 | [false,false,false,true,true],_=>qlb
 | [false,false,true,false,false],_=>qkz
 | [false,false,true,false,true],_=>qir
 | [false,false,true,true,false],_=>qi7
 | [false,false,true,true,true],_=>qkn
 | [false,true,false,false,false],_=>qjb
 | [false,true,false,false,true],_=>qjn
 | [false,true,false,true,false],_=>qj7
 | [false,true,false,true,true],_=>qk3
 | [false,true,true,false,false],_=>qkj
 | [false,true,true,false,true],_=>qkr
 | [false,true,true,true,false],_=>qk7
 | [false,true,true,true,true],_=>qij
 | [true,false,false,false,false],_=>qjr
 | [true,false,false,false,true],_=>qib
 | [true,false,false,true,false],_=>qlf
 | [true,false,false,true,true],_=>qin
 | [true,false,true,false,false],_=>qkv
 | [true,false,true,false,true],_=>qi3
 | [true,false,true,true,false],_=>qjj
 | [true,false,true,true,true],_=>qiz
 | [true,true,false,false,false],_=>qiv
 | [true,true,false,false,true],_=>qj3
 | [true,true,false,true,false],_=>qkf
 | [true,true,false,true,true],_=>qjf
 | [true,true,true,false,false],_=>qh7
 | [true,true,true,false,true],_=>qjz
 | [true,true,true,true,false],_=>qkb
 | [true,true,true,true,true],_=>qh3
 | _::_::_::_::_::_::_,h=>absurd h (by simp)
theorem qsv:∀ (s:List Bool),s.length<=5->nG s
 | [],_=>n_
 | [false],_=>n_f
 | [true],_=>n_t
 | [false,false],_=>qus
 | [false,true],_=>qun
 | [true,false],_=>quf
 | [true,true],_=>quj
 | [false,false,false],_=>qsr
 | [false,false,true],_=>qsn
 | [false,true,false],_=>qr3
 | [false,true,true],_=>qrz
 | [true,false,false],_=>qsf
 | [true,false,true],_=>qsj
 | [true,true,false],_=>qr7
 | [true,true,true],_=>qsb
 | [false,false,false,false],_=>qps
 | [false,false,false,true],_=>qpg
 | [false,false,true,false],_=>qoo
 | [false,false,true,true],_=>qo4
 | [false,true,false,false],_=>qow
 | [false,true,false,true],_=>qpc
 | [false,true,true,false],_=>qoc
 | [false,true,true,true],_=>qok
 | [true,false,false,false],_=>qog
 | [true,false,false,true],_=>qn8
 | [true,false,true,false],_=>qpw
 | [true,false,true,true],_=>qos
 | [true,true,false,false],_=>qpo
 | [true,true,false,true],_=>qo0
 | [true,true,true,false],_=>qo8
 | [true,true,true,true],_=>qpk
 | [false,false,false,false,false],_=>qjw
 | [false,false,false,false,true],_=>qig
 | [false,false,false,true,false],_=>qlk
 | [false,false,false,true,true],_=>qlc
 | [false,false,true,false,false],_=>qk0
 | [false,false,true,false,true],_=>qis
 | [false,false,true,true,false],_=>qi8
 | [false,false,true,true,true],_=>qko
 | [false,true,false,false,false],_=>qjc
 | [false,true,false,false,true],_=>qjo
 | [false,true,false,true,false],_=>qj8
 | [false,true,false,true,true],_=>qk4
 | [false,true,true,false,false],_=>qkk
 | [false,true,true,false,true],_=>qks
 | [false,true,true,true,false],_=>qk8
 | [false,true,true,true,true],_=>qik
 | [true,false,false,false,false],_=>qjs
 | [true,false,false,false,true],_=>qic
 | [true,false,false,true,false],_=>qlg
 | [true,false,false,true,true],_=>qio
 | [true,false,true,false,false],_=>qkw
 | [true,false,true,false,true],_=>qi4
 | [true,false,true,true,false],_=>qjk
 | [true,false,true,true,true],_=>qi0
 | [true,true,false,false,false],_=>qiw
 | [true,true,false,false,true],_=>qj4
 | [true,true,false,true,false],_=>qkg
 | [true,true,false,true,true],_=>qjg
 | [true,true,true,false,false],_=>qh8
 | [true,true,true,false,true],_=>qj0
 | [true,true,true,true,false],_=>qkc
 | [true,true,true,true,true],_=>qh4
 | _::_::_::_::_::_::_,h=>absurd h (by simp)
theorem qsw:∀ (s:List Bool),s.length<=5->iG s
 | [],_=>i_
 | [false],_=>i_f
 | [true],_=>i_t
 | [false,false],_=>qut
 | [false,true],_=>qup
 | [true,false],_=>qug
 | [true,true],_=>quk
 | [false,false,false],_=>qss
 | [false,false,true],_=>qso
 | [false,true,false],_=>qr4
 | [false,true,true],_=>qr0
 | [true,false,false],_=>qsg
 | [true,false,true],_=>qsk
 | [true,true,false],_=>qr8
 | [true,true,true],_=>qsc
 | [false,false,false,false],_=>qpt
 | [false,false,false,true],_=>qph
 | [false,false,true,false],_=>qop
 | [false,false,true,true],_=>qo5
 | [false,true,false,false],_=>qox
 | [false,true,false,true],_=>qpd
 | [false,true,true,false],_=>qod
 | [false,true,true,true],_=>qol
 | [true,false,false,false],_=>qoh
 | [true,false,false,true],_=>qn9
 | [true,false,true,false],_=>qpx
 | [true,false,true,true],_=>qot
 | [true,true,false,false],_=>qpp
 | [true,true,false,true],_=>qo1
 | [true,true,true,false],_=>qo9
 | [true,true,true,true],_=>qpl
 | [false,false,false,false,false],_=>qjx
 | [false,false,false,false,true],_=>qih
 | [false,false,false,true,false],_=>qll
 | [false,false,false,true,true],_=>qld
 | [false,false,true,false,false],_=>qk1
 | [false,false,true,false,true],_=>qit
 | [false,false,true,true,false],_=>qi9
 | [false,false,true,true,true],_=>qkp
 | [false,true,false,false,false],_=>qjd
 | [false,true,false,false,true],_=>qjp
 | [false,true,false,true,false],_=>qj9
 | [false,true,false,true,true],_=>qk5
 | [false,true,true,false,false],_=>qkl
 | [false,true,true,false,true],_=>qkt
 | [false,true,true,true,false],_=>qk9
 | [false,true,true,true,true],_=>qil
 | [true,false,false,false,false],_=>qjt
 | [true,false,false,false,true],_=>qid
 | [true,false,false,true,false],_=>qlh
 | [true,false,false,true,true],_=>qip
 | [true,false,true,false,false],_=>qkx
 | [true,false,true,false,true],_=>qi5
 | [true,false,true,true,false],_=>qjl
 | [true,false,true,true,true],_=>qi1
 | [true,true,false,false,false],_=>qix
 | [true,true,false,false,true],_=>qj5
 | [true,true,false,true,false],_=>qkh
 | [true,true,false,true,true],_=>qjh
 | [true,true,true,false,false],_=>qh9
 | [true,true,true,false,true],_=>qj1
 | [true,true,true,true,false],_=>qkd
 | [true,true,true,true,true],_=>qh5
 | _::_::_::_::_::_::_,h=>absurd h (by simp)
theorem qsx:∀ (s:List Bool),s.length<=5->tG s
 | [],_=>t_
 | [false],_=>t_f
 | [true],_=>t_t
 | [false,false],_=>quu
 | [false,true],_=>quq
 | [true,false],_=>quh
 | [true,true],_=>qul
 | [false,false,false],_=>qst
 | [false,false,true],_=>qsp
 | [false,true,false],_=>qr5
 | [false,true,true],_=>qr1
 | [true,false,false],_=>qsh
 | [true,false,true],_=>qsl
 | [true,true,false],_=>qr9
 | [true,true,true],_=>qsd
 | [false,false,false,false],_=>qpu
 | [false,false,false,true],_=>qpi
 | [false,false,true,false],_=>qoq
 | [false,false,true,true],_=>qo6
 | [false,true,false,false],_=>qoy
 | [false,true,false,true],_=>qpe
 | [false,true,true,false],_=>qoe
 | [false,true,true,true],_=>qom
 | [true,false,false,false],_=>qoi
 | [true,false,false,true],_=>qoa
 | [true,false,true,false],_=>qpy
 | [true,false,true,true],_=>qou
 | [true,true,false,false],_=>qpq
 | [true,true,false,true],_=>qo2
 | [true,true,true,false],_=>qpa
 | [true,true,true,true],_=>qpm
 | [false,false,false,false,false],_=>qjy
 | [false,false,false,false,true],_=>qii
 | [false,false,false,true,false],_=>qlm
 | [false,false,false,true,true],_=>qle
 | [false,false,true,false,false],_=>qk2
 | [false,false,true,false,true],_=>qiu
 | [false,false,true,true,false],_=>qja
 | [false,false,true,true,true],_=>qkq
 | [false,true,false,false,false],_=>qje
 | [false,true,false,false,true],_=>qjq
 | [false,true,false,true,false],_=>qka
 | [false,true,false,true,true],_=>qk6
 | [false,true,true,false,false],_=>qkm
 | [false,true,true,false,true],_=>qku
 | [false,true,true,true,false],_=>qla
 | [false,true,true,true,true],_=>qim
 | [true,false,false,false,false],_=>qju
 | [true,false,false,false,true],_=>qie
 | [true,false,false,true,false],_=>qli
 | [true,false,false,true,true],_=>qiq
 | [true,false,true,false,false],_=>qky
 | [true,false,true,false,true],_=>qi6
 | [true,false,true,true,false],_=>qjm
 | [true,false,true,true,true],_=>qi2
 | [true,true,false,false,false],_=>qiy
 | [true,true,false,false,true],_=>qj6
 | [true,true,false,true,false],_=>qki
 | [true,true,false,true,true],_=>qji
 | [true,true,true,false,false],_=>qia
 | [true,true,true,false,true],_=>qj2
 | [true,true,true,true,false],_=>qke
 | [true,true,true,true,true],_=>qh6
 | _::_::_::_::_::_::_,h=>absurd h (by simp)
theorem jz8 {α β:Type} (g:α->β):∀ (l:List α),(l.map (fun v=>(v,g v))).map (·.1)=l
 | []=>rfl
 | a::l=>congrArg (a::·) (jz8 g l)
theorem qb2 (b i:Nat) (ops:List Ms.Opd):(evO b i ops).map (·.1)=dfO ops:=jz8 _ _
theorem j2n (b:Nat):∀ (l:List Ms.Ins) (i:Nat),(evI b i l).map (·.1)=(l.map jc7).flatten
 | [],i=>rfl
 | x::l,i=>by
  unfold evI
  rw [List.map_append,qb2,j2n b l]
  rfl
theorem ju1:∀ (l:List Blk) (k:Nat),(evL k l).map (·.1)=jdc l
 | [],k=>rfl
 | b::l,k=>by
  unfold evL evB evP
  rw [List.map_append,List.map_append,j2n,ju1 l,jz8]
  simp [jdc,jqr]
theorem j85 {b v:Nat} {y:Ms.Ins} (hv:v∈jc7 y):∀ {l:List Ms.Ins} {i j:Nat},l[i]?=some y->(v,(b,((j+i:Nat):Int)))∈evI b j l
 | [],i,j,h=>by simp at h
 | x::l,0,j,h=>by
  simp only [List.getElem?_cons_zero,Option.some.injEq] at h
  subst h
  unfold evI
  exact List.mem_append_left _ (List.mem_map.2 ⟨v,hv,rfl⟩)
 | x::l,i+1,j,h=>by
  simp only [List.getElem?_cons_succ] at h
  unfold evI
  have:=j85 (b:=b) hv (j:=j+1) h
  rw [show j+1+i=j+(i+1) by omega] at this
  exact List.mem_append_right _ this
theorem j86 {v b:Nat} {n:Int}:∀ {l:List Blk} {k:Nat} {i:Nat},b=k+i->jz6 l v i n->(v,(b,n))∈evL k l
 | [],k,i,e,h=>by
  obtain ⟨x,h1,_⟩:=h
  simp at h1
 | x::l,k,0,e,h=>by
  obtain ⟨y,h1,h2⟩:=h
  simp only [List.getElem?_cons_zero,Option.some.injEq] at h1
  subst h1
  rw [Nat.add_zero] at e
  subst e
  unfold evL evB
  refine List.mem_append_left _ ?_
  rcases h2 with ⟨rfl,h2⟩ | ⟨i,y,rfl,h2,h3⟩
  ·exact List.mem_append_left _ (List.mem_map.2 ⟨v,h2,rfl⟩)
  ·have:=j85 (b:=b) h3 (j:=0) h2
   rw [Nat.zero_add] at this
   exact List.mem_append_right _ this
 | x::l,k,i+1,e,h=>by
  unfold evL
  refine List.mem_append_right _ (j86 (i:=i) (by omega) ?_)
  obtain ⟨y,h1,h2⟩:=h
  exact ⟨y,by simpa using h1,h2⟩
theorem j87 {v:Nat}:∀ (l:List (Nat×(Nat×Int))) (T:List (Nat×Int)),v∉l.map (·.1)->(spF T l)[v]?=T[v]?
 | [],T,_=>rfl
 | e::l,T,h=>by
  simp only [List.map_cons,List.mem_cons,not_or] at h
  show (spF (T.set e.1 e.2) l)[v]?=_
  rw [j87 l _ h.2,List.getElem?_set_ne (fun x=>h.1 x.symm)]
theorem j88 {v:Nat} {p:Nat×Int}:∀ (l:List (Nat×(Nat×Int))) (T:List (Nat×Int)),(l.map (·.1)).Nodup->v<T.length->(v,p)∈l->(spF T l)[v]?=some p
 | [],T,_,_,h=>by cases h
 | e::l,T,hd,hv,h=>by
  rw [List.map_cons,List.nodup_cons] at hd
  show (spF (T.set e.1 e.2) l)[v]?=_
  rcases List.mem_cons.1 h with rfl | h
  ·rw [j87 l _ hd.1,List.getElem?_set_self hv]
  ·exact j88 l _ hd.2 (by rw [List.length_set];exact hv) h
theorem qb3 {f:Fc} (hm:(jdc f.blocks).Perm (List.range f.values.length)) {v b:Nat} {n:Int} (h:jz6 f.blocks v b n):(jeu f)[v]?=some (b,n):=by
 have hmem:=j86 (k:=0) (i:=b) (Nat.zero_add b).symm h
 have hk:v∈jdc f.blocks:=by rw [←ju1 f.blocks 0];exact List.mem_map.2 ⟨_,hmem,rfl⟩
 have hv:v<f.values.length:=List.mem_range.1 (hm.mem_iff.1 hk)
 unfold jeu
 exact j88 _ _ (by rw [ju1];exact hm.nodup_iff.2 List.nodup_range) (by rw [List.length_replicate];exact hv) hmem
theorem juv.kt {f:Fc} (hm:(jdc f.blocks).Perm (List.range f.values.length)) {idom:List Int} {v k i:Nat} (h:juv idom f.blocks v k i):KT idom (jeu f) v k i:=by
 obtain ⟨b,n,h1,h2⟩:=h
 exact ⟨(b,n),qb3 hm h1,h2⟩
def gPs (l:List Blk) (k:Nat):SV:=jah jas (l.getD k jhi).params
def gIs (l:List Blk) (k:Nat):SV:=jah jft (l.getD k jhi).instrs
def gAs (l:List Blk) (k j:Nat):SV:=jah jas ((l.getD k jhi).edges.getD j ⟨0,[]⟩).args
theorem j89 (a:Nat->SV):∀ (r p:List Ms.Edg),(∀ j,a j=jah jas ((p++r).getD j ⟨0,[]⟩).args)->qqg a p.length (r.map (·.block))=r.map jem
 | [],p,h=>rfl
 | e::r,p,h=>by
  show [si e.block,a p.length]::qqg a (p.length+1) (r.map (·.block))=jem e::r.map jem
  have h1:a p.length=jah jas e.args:=by
   rw [h,List.getD_eq_getElem?_getD,List.getElem?_append_right (Nat.le_refl _)];simp
  have h2:=j89 a r (p++[e]) (fun j=>by rw [h];simp)
  rw [List.length_append] at h2
  rw [h1]
  exact congrArg _ h2
theorem qlq (a:Nat->SV) (l:List Ms.Edg) (h:∀ j,a j=jah jas (l.getD j ⟨0,[]⟩).args):qqh a (l.map (·.block))=jah jem l:=by
 cases l with
 | nil=>rfl
 | cons e r =>
  have:=j89 a (e::r) [] (by simpa using h)
  exact congrArg SV.lst this
theorem j2o (l:List Blk):∀ (r p:List Blk),p++r=l->j8p (gPs l) (gIs l) (gAs l) p.length (grL r)=r.map ja4
 | [],p,h=>rfl
 | b::r,p,h=>by
  have hb:l.getD p.length jhi=b:=by rw [←h,List.getD_eq_getElem?_getD,List.getElem?_append_right (Nat.le_refl _)];simp
  show [gPs l p.length,gIs l p.length,qqh (gAs l p.length) (j8q b)]::j8p (gPs l) (gIs l) (gAs l) (p.length+1) (grL r)=ja4 b::r.map ja4
  have h1:qqh (gAs l p.length) (j8q b)=jah jem b.edges:=qlq _ _ (fun j=>by unfold gAs;rw [hb])
  have h2:=j2o l r (p++[b]) (by rw [←h];simp)
  rw [List.length_append] at h2
  rw [h1]
  unfold gPs gIs
  rw [hb]
  exact congrArg _ h2
theorem ju2 {f:Fc} (hne:f.blocks≠[]):[jah jas f.values,jah ja4 f.blocks]=qqi (grL f.blocks) (jah jas f.values) (gPs f.blocks) (gIs f.blocks) (gAs f.blocks):=by
 have h:=j2o f.blocks f.blocks [] rfl
 unfold qqi
 rw [show j8p (gPs f.blocks) (gIs f.blocks) (gAs f.blocks) 0 (grL f.blocks)=f.blocks.map ja4 from h]
 cases e:f.blocks with
 | nil=>exact absurd e hne
 | cons b r=>rfl
section
variable {f:Fc} {s:List Bool} {h:Hp} {Q:AV->Hp->Prop}
theorem qb4 (hs:s.length<=5) (hg:grL f.blocks=gS s) (hne:f.blocks≠[]):jdp F8 38 [.agg [jah jas f.values,jah ja4 f.blocks]] h=some (.s (jah jas (jen s 0)),h) :=
 jbb rfl (by simp only [jau,jaz,ja6,jb8,ja0,ja7,ja5,jbk,ja8,jbg,if_true]) (by rw [ju2 hne,hg];exact jkq (qsu s hs _ _ _ _))
theorem qlr (hs:s.length<=5) (hg:grL f.blocks=gS s) (hne:f.blocks≠[]):jdp F8 39 [.agg [jah jas f.values,jah ja4 f.blocks]] h=some (.s (jah juu (jqt (gS s))),h) :=
 jbb rfl (by simp only [jau,jaz,ja6,jb8,ja0,ja7,ja5,jbk,ja8,jbg,if_true]) (by rw [ju2 hne,hg];exact jkq (qsv s hs _ _ _ _))
theorem qb5 (hs:s.length<=5) (hg:grL f.blocks=gS s) (hne:f.blocks≠[]):jdp F8 41 [.agg [jah jas f.values,jah ja4 f.blocks],.s (jah jas (jen s 0))] h=some (.s (jah jeo (jbf s)),h) :=
 jbb rfl (by simp only [jau,jaz,ja6,jb8,ja0,ja7,ja5,jbk,ja8,jbg,if_true]) (by rw [ju2 hne,hg];exact jkq (qsw s hs _ _ _ _))
theorem qls (hs:s.length<=5) (hg:grL f.blocks=gS s) (hne:f.blocks≠[]):jdp F8 42 [.agg [jah jas f.values,jah ja4 f.blocks]] h=some (.agg (jut (jen s 0) (jbf s) (ji5 s)),h) :=
 jbb rfl (by simp only [jau,jaz,ja6,jb8,ja0,ja7,ja5,jbk,ja8,jbg,if_true]) (by rw [ju2 hne,hg];exact jkq (qsx s hs _ _ _ _))
end
def shp:Nat->List (List Bool)
 | 0=>[[]]
 | n+1=>[]::((shp n).map (false::·)++(shp n).map (true::·))
theorem j9a:∀ (n:Nat) (s:List Bool),s.length<=n->s∈shp n
 | 0,s,h=>by
  have:=List.eq_nil_of_length_eq_zero (Nat.le_zero.1 h)
  subst this;exact List.mem_singleton.2 rfl
 | n+1,[],h=>by unfold shp;simp
 | n+1,b::s,h=>by
  have:=j9a n s (by simpa using h)
  unfold shp
  refine List.mem_cons_of_mem _ (List.mem_append.2 ?_)
  cases b
  ·exact .inl (List.mem_map.2 ⟨s,this,rfl⟩)
  ·exact .inr (List.mem_map.2 ⟨s,this,rfl⟩)
theorem jmc {P:List Bool->Bool} (h:(shp 5).all P=true) {s:List Bool} (hs:s.length<=5):P s=true:=List.all_eq_true.1 h s (j9a 5 s hs)
def qtp (g:List (List Nat)):Bool:=g.all (fun es=>es.length<=1||es.all (fun t=>((jqt g).getD t [0,0]).length<=1))
theorem qb6:(shp 5).all (fun s=>qtp (gS s))=true:=by kernel_rfl
theorem jit:∀ (s:List Bool) (c:Nat),(jen s c).length=1+3*s.length
 | [],c=>rfl
 | false::s,c=>by simp [jen,jit s];omega
 | true::s,c=>by simp [jen,jit s];omega
structure FlOk (m:Nat×Nat) (f:Fc) (s:List Bool):Prop where
 k:FcOk m f
 on:jm2 f=0
 hs:s.length<=5
 hg:grL f.blocks=gS s
 hv:f.values≠[]
 us:UsOk (jbf s) f
theorem FlOk.hne {m:Nat×Nat} {f:Fc} {s:List Bool} (o:FlOk m f s):f.blocks≠[]:=List.length_pos_iff.1 (by have:=o.k.nb;omega)
theorem FlOk.len {m:Nat×Nat} {f:Fc} {s:List Bool} (o:FlOk m f s):f.blocks.length=1+3*s.length:=by rw [←jec,o.hg,jw7]
theorem ju3 {m:Nat×Nat} (m1:2<=m.1/\m.1<=10) (m2:2<=m.2/\m.2<=10) (l:List Pc):∃ s,FlOk m (jdy m l) s/\(jdc (jdy m l).blocks).Perm (List.range (jdy m l).values.length) /\
 (∀ (k i:Nat) (b:Blk) (x:Ms.Ins) (o:Ms.Opd),(jdy m l).blocks[k]?=some b->b.instrs[i]?=some x->o∈x.ops->o.kind=1->juv (jbf s) (jdy m l).blocks o.value k i):=by
 obtain ⟨k,kp,_⟩:=juf m1 m2 l
 obtain ⟨s,h1,h2,h3,h4⟩:=j31 m1 m2 l
 have hv:(jdy m l).values≠[]:=by
  obtain ⟨b,g,c,n,_⟩:=((jko m1 m2).pieces (l.take 24)).bd.lay ⟨0,0,1,0,0,0,3⟩
  obtain ⟨_,_,_,_,_,_,_,_,cs,e1,e2,_⟩:=qgw ((jko m1 m2).pieces (l.take 24)).v ⟨0,0,1,0,0,0,3⟩
  have:(jdy m l).values=(jcp ((l.take 24).foldl jbu (jbr m)) ⟨0,0,1,0,0,0,3⟩).values:=rfl
  rw [this,e2]
  rcases e1 with rfl | rfl<;>simp
 refine ⟨s,⟨k,j2k kp,h1,h2,hv,⟨by have:=k.nb;omega,fun b hb=>by have:=k.blk b hb;omega,fun a i b x hb hx=>⟨(k.ins b (List.mem_of_getElem? hb) x (List.mem_of_getElem? hx)).nops,fun o ho hk=>juv.kt kp (h3 a i b x o hb hx ho hk)⟩,fun a b e hb he=>⟨?_,fun v hv=>juv.kt kp (h4 a b e v hb he hv)⟩⟩⟩,kp,h3⟩
 obtain ⟨_,_,t,h5,h6,_⟩:=k.edg b (List.mem_of_getElem? hb) e he
 have h7:=(k.blk t (List.mem_of_getElem? h5)).1
 have:=congrArg List.length h6
 simp only [List.length_map] at this
 omega
def S10 (f:FuncId):Bool:=Nat.beq f 40
noncomputable def F10:Fns:=PX S10 F9
theorem qsy {A:Nat->Int}:Env Try.prog A tys F10:=jgx quw
theorem qsz {f:FuncId} (h1:S1 f=false) (h2:Nat.beq f jes.f=false) (h3:S3 f=false) (h4:S4 f=false) (h5:S5 f=false) (h6:S6 f=false) (h7:S7 f=false) (h8:S8 f=false) (h9:S9 f=false) (h10:S10 f=false) {vs:List AV} {h:Hp}:jdp F10 f vs h=none:=(ja3 h10).trans (no9 h1 h2 h3 h4 h5 h6 h7 h8 h9)
section
variable {h:Hp} {m:Nat×Nat} {f:Fc} {s:List Bool} {Q:AV->Hp->Prop}
theorem qlt {g:FuncId} (h9:S9 g=false) (h10:S10 g=false) {vs:List AV}:jdp F10 g vs h=jdp F8 g vs h:=(ja3 h10).trans (ja3 h9)
theorem qb7 (o:FlOk m f s) (m1:2<=m.1/\m.1<=10) (m2:2<=m.2/\m.2<=10):WC F10 19 [.agg [jah jas f.values,jah ja4 f.blocks],.agg [si m.1,si m.2]] h Q=Q (vi 0) h :=
 jao ((qlt rfl rfl).trans ((ja3 rfl).trans (by rw [qd7 o.k m1 m2,o.on];rfl)))
theorem j9b (m1:2<=m.1/\m.1<=10) (m2:2<=m.2/\m.2<=10):WC F10 19 [.agg [.nilSlice,.nilSlice],.agg [si m.1,si m.2]] h Q=Q (vi 1) h :=
 jao ((qlt rfl rfl).trans ((ja3 rfl).trans (j8o m1 m2)))
theorem jr0 (o:FlOk m f s):WC F10 38 [.agg [jah jas f.values,jah ja4 f.blocks]] h Q=Q (.s (jah jas (jen s 0))) h:=jao ((qlt rfl rfl).trans (qb4 o.hs o.hg o.hne))
theorem j9c (o:FlOk m f s):WC F10 39 [.agg [jah jas f.values,jah ja4 f.blocks]] h Q=Q (.s (jah juu (jqt (gS s)))) h:=jao ((qlt rfl rfl).trans (qlr o.hs o.hg o.hne))
theorem j32 (o:FlOk m f s):WC F10 41 [.agg [jah jas f.values,jah ja4 f.blocks],.s (jah jas (jen s 0))] h Q=Q (.s (jah jeo (jbf s))) h:=jao ((qlt rfl rfl).trans (qb5 o.hs o.hg o.hne))
theorem qb8 (o:FlOk m f s):WC F10 40 [.agg [jah jas f.values,jah ja4 f.blocks],.s (jah jeo (jbf s))] h Q=Q (vb true) h :=
 jao (jbb rfl (by simp only [jau,jaz,ja6,jb8,ja0,ja7,ja5,jbk,ja8,jbg,if_true]) (qlp jcz o.us (by have:=o.k.nv;omega) o.hv (j8k o.k)))
end
theorem FlOk.pred {m:Nat×Nat} {f:Fc} {s:List Bool} (o:FlOk m f s) {b:Blk} (hb:b∈f.blocks) (h:1<b.edges.length) {e:Ms.Edg} (he:e∈b.edges):∃ pl,(jqt (gS s))[e.block]?=some pl/\pl.length<=1:=by
 have h1:=jmc qb6 o.hs
 unfold qtp at h1
 rw [List.all_eq_true] at h1
 have h2:=h1 (j8q b) (by rw [←o.hg];exact List.mem_map.2 ⟨b,hb,rfl⟩)
 simp only [Bool.or_eq_true,decide_eq_true_eq,List.all_eq_true] at h2
 have h3:=h2.resolve_left (by unfold j8q;rw [List.length_map];omega) e.block (List.mem_map.2 ⟨e,he,rfl⟩)
 rw [List.getD_eq_getElem?_getD] at h3
 cases hq:(jqt (gS s))[e.block]? with
 | none=>rw [hq] at h3;simp at h3
 | some pl=>rw [hq] at h3;exact ⟨pl,rfl,h3⟩
theorem j9d {m:Nat×Nat} {f:Fc} {s:List Bool} (o:FlOk m f s) {b:Blk} (hb:b∈f.blocks) {bB:Nat} {x0 x1 x2 x3 x12 x13 x14 x15 x16 x17 x18 x19 x20:AV} {Q:Ex->St->Prop} :
 ∀ (d j:Nat) (_:j+d=b.edges.length) {hi:Hp} (_:Ok hi) (_:bB<hi.next) (_:hi.get bB=some (.arr [jah jas b.params,jah jft b.instrs,jah jem b.edges] 36)) {x4 x5 x8:AV}
  (hQ:∀ hj x4 x5 x8,Ok hj->hi.next<=hj.next->(∀ n,n<hi.next->hj.get n=hi.get n)->Q (.exit 2) (.mk [x0,x1,x2,x3,x4,x5,.s (jah juu (jqt (gS s))),.s (jah jem b.edges),x8,vi b.edges.length,vi b.edges.length,.s (.ptr bB 0),x12,x13,x14,x15,x16,x17,x18,x19,x20] hj)),
  W F10 jkx.loop (.mk [x0,x1,x2,x3,x4,x5,.s (jah juu (jqt (gS s))),.s (jah jem b.edges),x8,vi b.edges.length,vi j,.s (.ptr bB 0),x12,x13,x14,x15,x16,x17,x18,x19,x20] hi) Q
 | 0,j,hd,hi,ok,hB,xB,x4,x5,x8,hQ=>by
  obtain rfl:j=b.edges.length:=by omega
  rw [jan]
  unfold jkx
  simp (maxSteps:=1000000) (disch:=first|omega|assumption|(simp only [List.length];done)|exact jaa|((repeat (first|apply jac|apply jad));assumption)) only [go_sem,Int.lt_irrefl]
  exact hQ hi _ _ _ ok (Nat.le_refl _) (fun _ _=>rfl)
 | d+1,j,hd,hi,ok,hB,xB,x4,x5,x8,hQ=>by
  have hlt:(j:Int)<(b.edges.length:Int):=by omega
  have hne:=(o.k.blk b hb).2.2
  obtain ⟨e,hio⟩:∃ y,b.edges[j]?=some y:=⟨_,List.getElem?_eq_getElem (by omega)⟩
  have hix:=jak (enc:=jem) (size:=2) hio rfl
  have hs:(j:Int)+1=((j+1:Nat):Int):=by omega
  obtain ⟨hA,eA,okA,nA,xA,gA⟩:=jbz ok [.int .i64 0,.nilSlice] (jem e) 51
  have yB:=(gA _ hB).trans xB
  have l2:=jaj (enc:=jem) (l:=b.edges)
  unfold jem at xA eA
  rw [jan]
  unfold jkx jxg
  by_cases h1:1<b.edges.length
  ·have c1:(1<(b.edges.length:Int))=True:=by simp;omega
   obtain ⟨pl,h2,h3⟩:=o.pred hb h1 (List.mem_of_getElem? hio)
   have hxp:=jak (enc:=juu) (size:=1) h2 rfl
   have l3:=jaj (enc:=jas) (l:=pl)
   have c2:(1<(pl.length:Int))=False:=by simp;omega
   simp (maxSteps:=1000000) (disch:=first|omega|assumption|(simp only [List.length];done)|exact jaa|((repeat (first|apply jac|apply jad));assumption)) only [go_sem,jag,eq_true hlt,hix,jem,eA,xA,yB,l2,c1,hxp,juu,l3,c2,hs]
   exact j9d o hb d (j+1) (by omega) okA (by omega) yB (fun hj x4 x5 x8 ok' n g=>hQ hj x4 x5 x8 ok' (by omega) (fun q hq=>(g q (by omega)).trans (gA q hq)))
  ·have c1:(1<(b.edges.length:Int))=False:=by simp;omega
   simp (maxSteps:=1000000) (disch:=first|omega|assumption|(simp only [List.length];done)|exact jaa|((repeat (first|apply jac|apply jad));assumption)) only [go_sem,jag,eq_true hlt,hix,jem,eA,xA,yB,l2,c1,hs]
   exact j9d o hb d (j+1) (by omega) okA (by omega) yB (fun hj x4 x5 x8 ok' n g=>hQ hj x4 x5 x8 ok' (by omega) (fun q hq=>(g q (by omega)).trans (gA q hq)))
theorem qek {m:Nat×Nat} {f:Fc} {s:List Bool} (o:FlOk m f s) {bF:Nat} {x0 x1 x2 x3 x16 x17 x18 x19:AV} {Q:Ex->St->Prop} :
 ∀ (d j:Nat) (_:j+d=f.blocks.length) {hi:Hp} (_:Ok hi) (_:bF<hi.next) {x4 x5 x7 x8 x9 x10 x11 x13:AV}
  (hQ:∀ hj x4 x5 x7 x8 x9 x10 x11 x13,Ok hj->hi.next<=hj.next->hj.get bF=hi.get bF->Q (.exit 0) (.mk [x0,x1,x2,x3,x4,x5,.s (jah juu (jqt (gS s))),x7,x8,x9,x10,x11,.s (jah ja4 f.blocks),x13,vi f.blocks.length,vi f.blocks.length,x16,x17,x18,x19,.s (.ptr bF 0)] hj)),
  W F10 jky.loop (.mk [x0,x1,x2,x3,x4,x5,.s (jah juu (jqt (gS s))),x7,x8,x9,x10,x11,.s (jah ja4 f.blocks),x13,vi f.blocks.length,vi j,x16,x17,x18,x19,.s (.ptr bF 0)] hi) Q
 | 0,j,hd,hi,ok,hB,x4,x5,x7,x8,x9,x10,x11,x13,hQ=>by
  obtain rfl:j=f.blocks.length:=by omega
  rw [jan]
  unfold jky
  simp (maxSteps:=1000000) (disch:=first|omega|assumption|(simp only [List.length];done)|exact jaa|((repeat (first|apply jac|apply jad));assumption)) only [go_sem,Int.lt_irrefl]
  exact hQ hi _ _ _ _ _ _ _ _ ok (Nat.le_refl _) rfl
 | d+1,j,hd,hi,ok,hB,x4,x5,x7,x8,x9,x10,x11,x13,hQ=>by
  have nb:=o.k.nb
  have hlt:(j:Int)<(f.blocks.length:Int):=by omega
  obtain ⟨b,hio⟩:∃ y,f.blocks[j]?=some y:=⟨_,List.getElem?_eq_getElem (by omega)⟩
  have hbm:=List.mem_of_getElem? hio
  have hix:=jak (enc:=ja4) (size:=3) hio rfl
  have hs:(j:Int)+1=((j+1:Nat):Int):=by omega
  obtain ⟨hA,eA,okA,nA,xA,gA⟩:=jbz ok [.nilSlice,.nilSlice,.nilSlice] (ja4 b) 36
  have l2:=jaj (enc:=jem) (l:=b.edges)
  unfold ja4 at xA eA
  rw [jan]
  unfold jky jxh
  simp (maxSteps:=1000000) (disch:=first|omega|assumption|(simp only [List.length];done)|exact jaa|((repeat (first|apply jac|apply jad));assumption)) only [go_sem,jag,eq_true hlt,hix,ja4,eA,xA,l2]
  refine j9d o hbm b.edges.length 0 (by omega) okA (by omega) xA (fun hj x4 x5 x8 ok' n g=>?_)
  simp (maxSteps:=1000000) (disch:=first|omega|assumption|(simp only [List.length];done)|exact jaa|((repeat (first|apply jac|apply jad));assumption)) only [go_sem,jag,hs]
  exact qek o d (j+1) (by omega) ok' (by omega) (fun hk x4 x5 x7 x8 x9 x10 x11 x13 o' n' g'=>hQ hk x4 x5 x7 x8 x9 x10 x11 x13 o' (by omega) (g'.trans ((g _ (by omega)).trans (gA _ hB))))
theorem qlu {h:Hp} (ok:Ok h) {m:Nat×Nat} {f:Fc} {s:List Bool} (o:FlOk m f s) (m1:2<=m.1/\m.1<=10) (m2:2<=m.2/\m.2<=10):WC F10 22 [.agg [jah jas f.values,jah ja4 f.blocks],.agg [si m.1,si m.2]] h (fun v h'=>∃ d,jgu true h' d v=some (vi 0)):=by
 refine jba (qsz rfl rfl rfl rfl rfl rfl rfl rfl rfl rfl) j8y rfl ?_
 unfold ju0
 obtain ⟨hA,eA,okA,nA,xA,gA⟩:=jet ok [jah jas f.values,jah ja4 f.blocks] 26
 obtain ⟨hB,eB,okB,nB,xB,gB⟩:=jet okA [si m.1,si m.2] 30
 have yA:=(gB _ (by omega)).trans xA
 rw [nA] at xB
 have l2:=jaj (enc:=ja4) (l:=f.blocks)
 have l3:=jaj (enc:=jas) (l:=jen s 0)
 have c1:(((jen s 0).length:Int)<(f.blocks.length:Int))=False:=eq_false (by rw [jit,o.len];omega)
 have hh:(hB.next<=h.next/\h.next<hB.next)=False:=eq_false (by omega)
 simp (maxSteps:=1000000) (disch:=first|omega|assumption|(simp only [List.length];done)|exact jaa|((repeat (first|apply jac|apply jad));assumption)) only [go_sem,eA,eB,nA,yA,xB,qb7 o m1 m2]
 unfold jxl jxf
 simp (maxSteps:=1000000) (disch:=first|omega|assumption|(simp only [List.length];done)|exact jaa|((repeat (first|apply jac|apply jad));assumption)) only [go_sem,yA,xB,jr0 o,l3,l2,c1,hh]
 unfold jxk
 simp (maxSteps:=1000000) (disch:=first|omega|assumption|(simp only [List.length];done)|exact jaa|((repeat (first|apply jac|apply jad));assumption)) only [go_sem,yA,j9c o,l2]
 refine qek o f.blocks.length 0 (by omega) okB (by omega) (fun hj x4 x5 x7 x8 x9 x10 x11 x13 o' n g=>?_)
 have zA:=g.trans yA
 have hh:(hj.next<=h.next/\h.next<hj.next)=False:=eq_false (by omega)
 unfold jxi
 simp (maxSteps:=1000000) (disch:=first|omega|assumption|(simp only [List.length];done)|exact jaa|((repeat (first|apply jac|apply jad));assumption)) only [go_sem,zA,jr0 o,j32 o,qb8 o,hh]
 unfold jxj
 simp (maxSteps:=1000000) (disch:=first|omega|assumption|(simp only [List.length];done)|exact jaa|((repeat (first|apply jac|apply jad));assumption)) only [go_sem]
 exact ⟨1,rfl⟩
open Go Go.RowKit
def qel:IC:=(.seq (.region [(qQ 3 (.mv (.c (.s (.bool false)))))]) (.seq (.region [(qP (.mv (.g 0))),(qP (.mv (.g 1))),(qA (.call 17 [(.l 1),(.l 0)])),(qB 6 (.new 30 [(.int .i64 0),(.int .i64 0)])),(qA (.store 2 (.l 0) (.l 1)))]) (.seq (.region [(qA (.load 2 true (.g 6))),(qP (.mv (.g 2))),(qA (.call 16 [(.l 1),(.l 0)])),(qB 5 (.new 26 [.nilSlice,.nilSlice])),(qA (.store 2 (.l 0) (.l 1)))]) (.seq (.region [(qA (.load 2 true (.g 5))),(qA (.load 2 true (.g 6))),(qA (.call 23 [(.l 1),(.l 0)])),(qP (.mv (.l 0))),(qP (.ext 0 (.l 0))),(qP (.ext 1 (.l 1))),(qA (.new 53 [.nilSlice,.nilSlice,.nilSlice])),(qA (.store 3 (.l 0) (.l 2))),(qQ 4 (.mv (.l 2)))]) (.seq (.region [(qA (.load 2 true (.g 5))),(qA (.load 2 true (.g 6))),(qA (.call 22 [(.l 1),(.l 0)])),(qP (.bin .eq (.l 0) (qC 0))),(qP (.mv (.l 0))),(qR 0 true (.mv (.g 4))),(qR 1 true (.bin .eq (.l 0) (qC 0))),(qP (.pick (.l 2) (.l 0) (.c (.s (.bool false))))),(qP (.mv (.l 0))),(qR 0 true (.build [.nilSlice,.nilSlice] [])),(qS 1 true (.load 2 true (.g 6))),(qS 2 true (.call 22 [(.l 1),(.l 0)])),(qR 3 true (.bin .eq (.l 0) (qC 1))),(qP (.pick (.l 4) (.l 0) (.c (.s (.bool false))))),(qQ 3 (.mv (.l 0)))]) .ret)))))
theorem qs0:T 9=some (.mk qel 3 4 [(.tmp 3)]):=by kernel_rfl
theorem qb9 {h:Hp} (ok:Ok h) {m:Nat×Nat} (m1:2<=m.1/\m.1<=10) (m2:2<=m.2/\m.2<=10):WC F10 22 [.agg [.nilSlice,.nilSlice],.agg [si m.1,si m.2]] h (fun v h'=>∃ d,jgu true h' d v=some (vi 1)):=by
 refine jba (qsz rfl rfl rfl rfl rfl rfl rfl rfl rfl rfl) j8y rfl ?_
 unfold ju0
 obtain ⟨hA,eA,okA,nA,xA,gA⟩:=jet ok [.nilSlice,.nilSlice] 26
 obtain ⟨hB,eB,okB,nB,xB,gB⟩:=jet okA [si m.1,si m.2] 30
 have yA:=(gB _ (by omega)).trans xA
 rw [nA] at xB
 simp (maxSteps:=1000000) (disch:=first|omega|assumption|(simp only [List.length];done)|exact jaa|((repeat (first|apply jac|apply jad));assumption)) only [go_sem,eA,eB,nA,yA,xB,j9b m1 m2]
 exact ⟨1,rfl⟩
def S11 (f:FuncId):Bool:=Nat.beq f 22
noncomputable def F11:Fns:=PX S11 F10
theorem qs1 {A:Nat->Int}:Env Try.prog A tys F11:=jgx qsy
theorem qtq {f:FuncId} (h1:S1 f=false) (h2:Nat.beq f jes.f=false) (h3:S3 f=false) (h4:S4 f=false) (h5:S5 f=false) (h6:S6 f=false) (h7:S7 f=false) (h8:S8 f=false) (h9:S9 f=false) (h10:S10 f=false) (h11:S11 f=false) {vs:List AV} {h:Hp}:jdp F11 f vs h=none:=(ja3 h11).trans (qsz h1 h2 h3 h4 h5 h6 h7 h8 h9 h10)
section
variable {h:Hp} {m:Nat×Nat} {f:Fc} {s:List Bool} {Q:AV->Hp->Prop}
theorem j9e (o:FlOk m f s) (m1:2<=m.1/\m.1<=10) (m2:2<=m.2/\m.2<=10):jdp F11 22 [.agg [jah jas f.values,jah ja4 f.blocks],.agg [si m.1,si m.2]] h=some (vi 0,h):=jbb rfl (by simp only [jau,jaz,ja6,jb8,ja0,ja7,ja5,jbk,ja8,jbg,if_true]) (qlu jcz o m1 m2)
theorem qca (m1:2<=m.1/\m.1<=10) (m2:2<=m.2/\m.2<=10):jdp F11 22 [.agg [.nilSlice,.nilSlice],.agg [si m.1,si m.2]] h=some (vi 1,h):=jbb rfl rfl (qb9 jcz m1 m2)
theorem j9f (o:FlOk m f s):WC F11 42 [.agg [jah jas f.values,jah ja4 f.blocks]] h Q=Q (.agg (jut (jen s 0) (jbf s) (ji5 s))) h :=
 jao ((ja3 rfl).trans ((qlt rfl rfl).trans (qls o.hs o.hg o.hne)))
theorem qcb (o:FlOk m f s) (m1:2<=m.1/\m.1<=10) (m2:2<=m.2/\m.2<=10):WC F11 22 [.agg [jah jas f.values,jah ja4 f.blocks],.agg [si m.1,si m.2]] h Q=Q (vi 0) h:=jao (j9e o m1 m2)
end
def ju4 (s:List Bool):AV:=.tup [(true,jut (jen s 0) (jbf s) (ji5 s)),(false,[si 0])]
theorem ju5 {α:Type} {h:Hp} {d:Nat} {enc:α->List SV} {l:List α}:jjd true h (d+1) (jah enc l)=some (jah enc l):=by cases l<;>rfl
theorem qcc {h:Hp} {s:List Bool}:jgu true h 2 (.tup [(true,[jah jas (jen s 0),jah jeo (jbf s),jah jas (ji5 s)]),(false,[.int .i64 0])])=some (ju4 s):=by
 show ob (ob (jiv (jjd true h 2) [jah jas (jen s 0),jah jeo (jbf s),jah jas (ji5 s)]) (fun x=>ob (qcw (jjd true h 2) [(false,[.int .i64 0])]) (fun r=>some ((true,x)::r)))) (fun y=>some (AV.tup y))=_
 rw [jcq ju5 (jcq ju5 (qa4 ju5))]
 rfl
theorem jz9 {h:Hp} (ok:Ok h) {m:Nat×Nat} {f:Fc} {s:List Bool} (o:FlOk m f s) (m1:2<=m.1/\m.1<=10) (m2:2<=m.2/\m.2<=10):WC F11 23 [.agg [jah jas f.values,jah ja4 f.blocks],.agg [si m.1,si m.2]] h (fun v h'=>∃ d,jgu true h' d v=some (ju4 s)):=by
 refine jba (qtq rfl rfl rfl rfl rfl rfl rfl rfl rfl rfl rfl) qrx rfl ?_
 unfold qec
 obtain ⟨hA,eA,okA,nA,xA,gA⟩:=jet ok [jah jas f.values,jah ja4 f.blocks] 26
 obtain ⟨hB,eB,okB,nB,xB,gB⟩:=jet okA [si m.1,si m.2] 30
 obtain ⟨hC,eC,okC,nC,xC,gC⟩:=jet okB [.nilSlice,.nilSlice,.nilSlice] 53
 have yA:=(gC _ (by omega)).trans ((gB _ (by omega)).trans xA)
 have yB:=(gC _ (by omega)).trans xB
 have nb:hB.next=h.next+2:=by omega
 rw [nA] at yB
 rw [nb] at xC
 simp (maxSteps:=1000000) (disch:=first|omega|assumption|(simp only [List.length];done)|exact jaa|((repeat (first|apply jac|apply jad));assumption)) only [go_sem,eA,eB,eC,nA,nb,yA,yB,qcb o m1 m2]
 unfold j8z
 simp (maxSteps:=1000000) (disch:=first|omega|assumption|(simp only [List.length];done)|exact jaa|((repeat (first|apply jac|apply jad));assumption)) only [go_sem,yA,j9f o,jut,xC]
 exact ⟨2,qcc⟩
def S12 (f:FuncId):Bool:=Nat.beq f 23
noncomputable def F12:Fns:=PX S12 F11
theorem qpz {A:Nat->Int}:Env Try.prog A tys F12:=jgx qs1
theorem qs2 {f:FuncId} (h1:S1 f=false) (h2:Nat.beq f jes.f=false) (h3:S3 f=false) (h4:S4 f=false) (h5:S5 f=false) (h6:S6 f=false) (h7:S7 f=false) (h8:S8 f=false) (h9:S9 f=false) (h10:S10 f=false) (h11:S11 f=false) (h12:S12 f=false) {vs:List AV} {h:Hp}:jdp F12 f vs h=none:=(ja3 h12).trans (qtq h1 h2 h3 h4 h5 h6 h7 h8 h9 h10 h11)
section
variable {h:Hp} {m:Nat×Nat} {f:Fc} {s:List Bool} {Q:AV->Hp->Prop}
theorem j33 {g:FuncId} (h4:S4 g=false) (h5:S5 g=false) (h6:S6 g=false) (h7:S7 g=false) (h8:S8 g=false) (h9:S9 g=false) (h10:S10 g=false) (h11:S11 g=false) (h12:S12 g=false) {vs:List AV}:jdp F12 g vs h=jdp F3 g vs h :=
 (ja3 h12).trans ((ja3 h11).trans ((qlt h9 h10).trans ((ja3 h8).trans (qrt h4 h5 h6 h7))))
theorem qcd (o:FlOk m f s) (m1:2<=m.1/\m.1<=10) (m2:2<=m.2/\m.2<=10):WC F12 23 [.agg [jah jas f.values,jah ja4 f.blocks],.agg [si m.1,si m.2]] h Q=Q (ju4 s) h :=
 jao (jbb rfl (by simp only [jau,jaz,ja6,jb8,ja0,ja7,ja5,jbk,ja8,jbg,if_true]) (jz9 jcz o m1 m2))
theorem qce (o:FlOk m f s) (m1:2<=m.1/\m.1<=10) (m2:2<=m.2/\m.2<=10):WC F12 22 [.agg [jah jas f.values,jah ja4 f.blocks],.agg [si m.1,si m.2]] h Q=Q (vi 0) h:=jao ((ja3 rfl).trans (j9e o m1 m2))
theorem j9g (m1:2<=m.1/\m.1<=10) (m2:2<=m.2/\m.2<=10):WC F12 22 [.agg [.nilSlice,.nilSlice],.agg [si m.1,si m.2]] h Q=Q (vi 1) h:=jao ((ja3 rfl).trans (qca m1 m2))
theorem jxn {a b:Int} (ha:In6 a) (hb:In6 b):WC F12 17 [vi a,vi b] h Q=Q (.agg (j37 (jiy a b))) h:=jao ((j33 rfl rfl rfl rfl rfl rfl rfl rfl rfl).trans (jip ha hb))
theorem j9h {l:List Pc} (m1:2<=m.1/\m.1<=10) (m2:2<=m.2/\m.2<=10) (pin:∀ q∈l,Pin q) {xl:SV} (lx:LstE jbx 7 xl l):WC F12 16 [.agg [si m.1,si m.2],.s xl] h Q=Q (.agg (j36 (jdy m l))) h:=jao ((j33 rfl rfl rfl rfl rfl rfl rfl rfl rfl).trans (juc m1 m2 pin lx))
end
theorem qcf {h:Hp} (ok:Ok h) {a b:Int} {l:List Pc} (ha:In6 a) (hb:In6 b) (pin:∀ q∈l,Pin q) {xl:SV} (lx:LstE jbx 7 xl l):WC F12 9 [vi a,vi b,.s xl] h (fun v _=>v=.s (.bool true)):=by
 refine jba (qs2 rfl rfl rfl rfl rfl rfl rfl rfl rfl rfl rfl rfl) qs0 rfl ?_
 unfold qel
 obtain ⟨m1,m2⟩:=jp3 a b
 obtain ⟨m,em⟩:∃ m,jiy a b=m:=⟨_,rfl⟩
 rw [em] at m1 m2
 obtain ⟨s,o,_,_⟩:=ju3 m1 m2 l
 obtain ⟨f,ef⟩:∃ f,jdy m l=f:=⟨_,rfl⟩
 rw [ef] at o
 obtain ⟨hA,eA,okA,nA,xA,gA⟩:=jbz ok [.int .i64 0,.int .i64 0] [si m.1,si m.2] 30
 obtain ⟨hB,eB,okB,nB,xB,gB⟩:=jbz okA [.nilSlice,.nilSlice] [jah jas f.values,jah ja4 f.blocks] 26
 obtain ⟨hC,eC,okC,nC,xC,gC⟩:=jbz okB [.nilSlice,.nilSlice,.nilSlice] [jah jas (jen s 0),jah jeo (jbf s),jah jas (ji5 s)] 53
 have yA:=(gB _ (by omega)).trans xA
 have zA:=(gC _ (by omega)).trans yA
 have zB:=(gC _ (by omega)).trans xB
 have nb:hB.next=h.next+2:=by omega
 rw [nA] at eB xB zB
 rw [nb] at eC
 simp (maxSteps:=1000000) (disch:=first|omega|assumption|(simp only [List.length];done)|exact jaa|((repeat (first|apply jac|apply jad));assumption)) only [go_sem,jut,nb,eC,zA,zB,jxn ha hb,em,j37,eA,nA,xA,j9h m1 m2 pin lx,ef,j36,eB,yA,xB,qcd o m1 m2,ju4,qce o m1 m2,j9g m1 m2]
end Go.Proofs.Ytaljcpoopmedmaa.Ev
