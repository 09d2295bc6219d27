/- Is each value made where it is used? What the code tells. -/
import Derived.Test.YtaljcpoopmedmaaUe
import Derived.Test.YtaljcpoopmedmaaGT1
import Derived.Test.YtaljcpoopmedmaaGT3
import Derived.Test.YtaljcpoopmedmaaGT5
import Derived.Test.YtaljcpoopmedmaaGT7
namespace Go.Proofs.Ytaljcpoopmedmaa.Ev
open Go Go.RowKit Go.Proofs.Ytaljcpoopmedmaa.Ms
attribute [local go_sem] Int.cast_ofNat_Int Int.natCast_zero Int.natCast_one decide_eq_true_eq decide_eq_false_iff_not Bool.false_eq_true and_true true_and List.cons_append List.nil_append reduceCtorEq decide_true decide_false Bool.not_true Bool.not_false Nat.add_zero Nat.zero_add Option.some.injEq Bool.true_eq_false not_true_eq_false not_false_eq_true Hp.next_push Hp.next_put Nat.add_assoc Int.reduceToNat Nat.reduceAdd Nat.reduceMul Nat.reduceEqDiff Int.reduceEq Int.reduceLT Int.reduceLE Int.reduceNeg Int.reduceAdd Int.reduceSub Int.reduceMul Int.reduceNe
attribute [local go_sem ↓] reduceIte
set_option linter.all false
set_option maxRecDepth 100000
set_option maxHeartbeats 2000000
def S8 (f:FuncId):Bool:=Nat.beq f 74||(Nat.beq f 61||(Nat.beq f 38||(Nat.beq f 39||(Nat.beq f 41||Nat.beq f 42))))
noncomputable def F8:Fns:=PX S8 F7
theorem qtq {A:Nat->Int}:Env Try.prog A tys F8:=jhd qs8
theorem no8 {f:FuncId} (h1:S1 f=false) (h2:Nat.beq f jfg.f=false) (h3:S3 f=false) (h4:S4 f=false) (h5:S5 f=false) (h6:S6 f=false) (h7:S7 f=false) (h8:S8 f=false) {vs:List AV} {h:Hp}:jdy F8 f vs h=none:=(jbj h8).trans (no7 h1 h2 h3 h4 h5 h6 h7)
def S9 (f:FuncId):Bool:=Nat.beq f 62
noncomputable def F9:Fns:=PX S9 F8
theorem qtr {A:Nat->Int}:Env Try.prog A tys F9:=jhd qtq
theorem no9 {f:FuncId} (h1:S1 f=false) (h2:Nat.beq f jfg.f=false) (h3:S3 f=false) (h4:S4 f=false) (h5:S5 f=false) (h6:S6 f=false) (h7:S7 f=false) (h8:S8 f=false) (h9:S9 f=false) {vs:List AV} {h:Hp}:jdy F9 f vs h=none:=(jbj h9).trans (no8 h1 h2 h3 h4 h5 h6 h7 h8)
theorem qkg {h:Hp} {Q:AV->Hp->Prop} {idom:List Int} {a:Nat} {b:Int} (hd:Dom idom a b):WC F8 74 [.s (jah jfl idom),vi a,vi b] h Q=Q (vb true) h :=
 jau (jbh rfl (by simp only [jat,ja1,ja8,jcd,ja2,ja9,ja6,jbl,jba,jbi,if_true]) (qgu jem hd))
def KP (idom:List Int) (p:Nat×Int) (k:Nat) (i:Nat):Prop:=(p.1=k/\p.2<(i:Int))∨(p.1≠k/\Dom idom p.1 k)
theorem j8j {h:Hp} (ok:Ok h) {idom:List Int} {a k i:Nat} {n:Int} (hk:KP idom (a,n) k i):WC F8 62 [.s (jah jfl idom),.agg [si a,si n],.agg [si k,si i]] h (fun v h'=>∃ d,jhf true h' d v=some (vb true)):=by
 refine jbg (no8 rfl rfl rfl rfl rfl rfl rfl rfl) qgs rfl ?_
 unfold j12
 obtain ⟨hA,eA,okA,nA,xA,gA⟩:=jfk ok [si a,si n] 109
 obtain ⟨hB,eB,okB,nB,xB,gB⟩:=jfk okA [si k,si i] 109
 have yA:=(gB _ (by omega)).trans xA
 rw [nA] at xB
 rcases hk with ⟨h1,h2⟩ | ⟨h1,h2⟩
 ·simp only at h1 h2
  have c1:((a:Int)=(k:Int))=True:=by simp;omega
  have c2:(n<(i:Int))=True:=eq_true h2
  simp (disch:=first|omega|simp only[List.length]|apply_rules[jaa,jac,jad]) only [go_sem,eA,nA,eB,yA,xB,c1,c2]
  exact ⟨1,rfl⟩
 ·simp only at h1 h2
  have c1:((a:Int)=(k:Int))=False:=by simp;omega
  simp (disch:=first|omega|simp only[List.length]|apply_rules[jaa,jac,jad]) only [go_sem,eA,nA,eB,yA,xB,c1]
  unfold jwz
  simp (disch:=first|omega|simp only[List.length]|apply_rules[jaa,jac,jad]) only [go_sem,yA,xB,qkg h2]
  exact ⟨1,rfl⟩
theorem jw7 {h:Hp} {Q:AV->Hp->Prop} {idom:List Int} {a k i:Nat} {n:Int} (hk:KP idom (a,n) k i):WC F9 62 [.s (jah jfl idom),.agg [si a,si n],.agg [si k,si i]] h Q=Q (vb true) h :=
 jau (jbh rfl (by simp only [jat,ja1,ja8,jcd,ja2,ja9,ja6,jbl,jba,jbi,if_true]) (j8j jem hk))
def KT (idom:List Int) (T:List (Nat×Int)) (v k i:Nat):Prop:=∃ p,T[v]?=some p/\KP idom p k i
theorem j8k {idom:List Int} {T:List (Nat×Int)} {l:List Ms.Opd} {k i:Nat} (hl:l.length<=10000) (hp:∀ o∈l,o.kind=1->KT idom T o.value k i) {x0 x2 x3 x4 x5 x6 x7 x8 x9 x10 x11 x12 x13 x23 x24 x25 x26 x27 x28 x29 x30 x31 x32 x33:AV} {Q:Ex->St->Prop} :
 ∀ (d j:Nat) (_:j+d=l.length) {hi:Hp} (_:Ok hi) {x14 x18 x20:AV}
  (hQ:∀ hj x14 x18 x20,Ok hj->hi.next<=hj.next->(∀ n,n<hi.next->hj.get n=hi.get n)->Q (.exit 4) (.mk [x0,.s (jah jfl idom),x2,x3,x4,x5,x6,x7,x8,x9,x10,x11,x12,x13,x14,vi i,vi k,.s (jah jiq T),x18,.s (jah jbc l),x20,vi l.length,vi l.length,x23,x24,x25,x26,x27,x28,x29,x30,x31,x32,x33] hj)),
  W F9 jkk.loop (.mk [x0,.s (jah jfl idom),x2,x3,x4,x5,x6,x7,x8,x9,x10,x11,x12,x13,x14,vi i,vi k,.s (jah jiq T),x18,.s (jah jbc l),x20,vi l.length,vi j,x23,x24,x25,x26,x27,x28,x29,x30,x31,x32,x33] hi) Q
 | 0,j,hd,hi,ok,x14,x18,x20,hQ=>by
  obtain rfl:j=l.length:=by omega
  rw [jan]
  unfold jkk
  simp (disch:=first|omega|simp only[List.length]|apply_rules[jaa,jac,jad]) only [go_sem,Int.lt_irrefl]
  exact hQ hi _ _ _ ok (Nat.le_refl _) (fun _ _=>rfl)
 | d+1,j,hd,hi,ok,x14,x18,x20,hQ=>by
  have hlt:(j:Int)<(l.length:Int):=by omega
  obtain ⟨o,hio⟩:∃ y,l[j]?=some y:=⟨_,List.getElem?_eq_getElem (by omega)⟩
  have ho:=hp o (List.mem_of_getElem? hio)
  have hix:=jak (enc:=jbc) (size:=5) hio rfl
  have hs:(j:Int)+1=((j+1:Nat):Int):=by omega
  obtain ⟨hA,eA,okA,nA,xA,gA⟩:=jcs ok [.int .i64 0,.int .i64 0,.bool false,.int .i64 0,.int .i64 0] (jbc o) 48
  unfold jbc at xA eA
  rw [jan]
  unfold jkk jwt
  by_cases e:o.kind=1
  ·have c1:((o.kind:Int)=1)=True:=by simp;omega
   obtain ⟨⟨pb,pn⟩,h1,h2⟩:=ho e
   have hxs:=jak (enc:=jiq) (size:=2) h1 rfl
   simp (disch:=first|omega|simp only[List.length]|apply_rules[jaa,jac,jad]) only [go_sem,jag,eq_true hlt,hix,jbc,eA,xA,c1,hxs,jiq,jw7 h2,hs]
   exact j8k hl hp d (j+1) (by omega) okA (fun hj x14 x18 x20 o n g=>hQ hj x14 x18 x20 o (by omega) (fun m hm=>(g m (by omega)).trans (gA m hm)))
  ·have c1:((o.kind:Int)=1)=False:=by simp;omega
   simp (disch:=first|omega|simp only[List.length]|apply_rules[jaa,jac,jad]) only [go_sem,jag,eq_true hlt,hix,jbc,eA,xA,c1,hs]
   exact j8k hl hp d (j+1) (by omega) okA (fun hj x14 x18 x20 o n g=>hQ hj x14 x18 x20 o (by omega) (fun m hm=>(g m (by omega)).trans (gA m hm)))
theorem qdd {idom:List Int} {T:List (Nat×Int)} {l:List Ms.Ins} {k:Nat} (hl:l.length<=10000) (hp:∀ (i:Nat) (x:Ms.Ins),l[i]?=some x->x.ops.length<=6/\∀ o∈x.ops,o.kind=1->KT idom T o.value k i) {x0 x2 x3 x4 x5 x6 x7 x8 x9 x10 x11 x12 x13 x28 x29 x30 x31 x32 x33:AV} {Q:Ex->St->Prop} :
 ∀ (d j:Nat) (_:j+d=l.length) {hi:Hp} (_:Ok hi) {x14 x15 x18 x19 x20 x21 x22 x23 x25:AV}
  (hQ:∀ hj x14 x15 x18 x19 x20 x21 x22 x23 x25,Ok hj->hi.next<=hj.next->(∀ n,n<hi.next->hj.get n=hi.get n)->Q (.exit 2) (.mk [x0,.s (jah jfl idom),x2,x3,x4,x5,x6,x7,x8,x9,x10,x11,x12,x13,x14,x15,vi k,.s (jah jiq T),x18,x19,x20,x21,x22,x23,.s (jah jdw l),x25,vi l.length,vi l.length,x28,x29,x30,x31,x32,x33] hj)),
  W F9 jkl.loop (.mk [x0,.s (jah jfl idom),x2,x3,x4,x5,x6,x7,x8,x9,x10,x11,x12,x13,x14,x15,vi k,.s (jah jiq T),x18,x19,x20,x21,x22,x23,.s (jah jdw l),x25,vi l.length,vi j,x28,x29,x30,x31,x32,x33] hi) Q
 | 0,j,hd,hi,ok,x14,x15,x18,x19,x20,x21,x22,x23,x25,hQ=>by
  obtain rfl:j=l.length:=by omega
  rw [jan]
  unfold jkl
  simp (disch:=first|omega|simp only[List.length]|apply_rules[jaa,jac,jad]) only [go_sem,Int.lt_irrefl]
  exact hQ hi _ _ _ _ _ _ _ _ _ ok (Nat.le_refl _) (fun _ _=>rfl)
 | d+1,j,hd,hi,ok,x14,x15,x18,x19,x20,x21,x22,x23,x25,hQ=>by
  have hlt:(j:Int)<(l.length:Int):=by omega
  obtain ⟨x,hio⟩:∃ y,l[j]?=some y:=⟨_,List.getElem?_eq_getElem (by omega)⟩
  obtain ⟨hx1,hx2⟩:=hp j x hio
  have hix:=jak (enc:=jdw) (size:=3) hio rfl
  have hs:(j:Int)+1=((j+1:Nat):Int):=by omega
  obtain ⟨hA,eA,okA,nA,xA,gA⟩:=jcs ok [.int .i64 0,.nilSlice,.nilSlice] (jdw x) 46
  have l1:=jal (enc:=jbc) (l:=x.ops)
  unfold jdw at xA eA
  rw [jan]
  unfold jkl jwu
  simp (disch:=first|omega|simp only[List.length]|apply_rules[jaa,jac,jad]) only [go_sem,jag,eq_true hlt,hix,jdw,eA,xA,l1]
  refine j8k (by omega) hx2 x.ops.length 0 (by omega) okA (fun hj x14 x18 x20 o n g=>?_)
  simp (disch:=first|omega|simp only[List.length]|apply_rules[jaa,jac,jad]) only [go_sem,jag,hs]
  exact qdd hl hp d (j+1) (by omega) o (fun hk x14 x15 x18 x19 x20 x21 x22 x23 x25 o' n' g'=>hQ hk x14 x15 x18 x19 x20 x21 x22 x23 x25 o' (by omega) (fun m hm=>(g' m (by omega)).trans ((g m (by omega)).trans (gA m hm))))
theorem qde {idom:List Int} {T:List (Nat×Int)} {l:List Nat} {b:Blk} {k bB:Nat} (hl:l.length<=10000) (hp:∀ v∈l,KT idom T v k b.instrs.length) {x0 x2 x9 x10 x11 x12 x13 x14 x15 x18 x19 x20 x21 x22 x23 x24 x25 x26 x27 x29 x30 x31 x32 x33:AV} {Q:Ex->St->Prop} :
 ∀ (d j:Nat) (_:j+d=l.length) {hi:Hp} (_:Ok hi) (_:hi.get bB=some (.arr [jah jaz b.params,jah jdw b.instrs,jah jhi b.edges] 36)) {x3 x4 x6:AV}
  (hQ:∀ x3 x4 x6,Q (.exit 8) (.mk [x0,.s (jah jfl idom),x2,x3,x4,.s (jah jaz l),x6,vi l.length,vi l.length,x9,x10,x11,x12,x13,x14,x15,vi k,.s (jah jiq T),x18,x19,x20,x21,x22,x23,x24,x25,x26,x27,.s (.ptr bB 0),x29,x30,x31,x32,x33] hi)),
  W F9 jkm.loop (.mk [x0,.s (jah jfl idom),x2,x3,x4,.s (jah jaz l),x6,vi l.length,vi j,x9,x10,x11,x12,x13,x14,x15,vi k,.s (jah jiq T),x18,x19,x20,x21,x22,x23,x24,x25,x26,x27,.s (.ptr bB 0),x29,x30,x31,x32,x33] hi) Q
 | 0,j,hd,hi,ok,xB,x3,x4,x6,hQ=>by
  obtain rfl:j=l.length:=by omega
  rw [jan]
  unfold jkm
  simp (disch:=first|omega|simp only[List.length]|apply_rules[jaa,jac,jad]) only [go_sem,Int.lt_irrefl]
  exact hQ _ _ _
 | d+1,j,hd,hi,ok,xB,x3,x4,x6,hQ=>by
  have hlt:(j:Int)<(l.length:Int):=by omega
  obtain ⟨v,hio⟩:∃ y,l[j]?=some y:=⟨_,List.getElem?_eq_getElem (by omega)⟩
  obtain ⟨⟨pb,pn⟩,h1,h2⟩:=hp v (List.mem_of_getElem? hio)
  have hix:=jak (enc:=jaz) (size:=1) hio rfl
  have hxs:=jak (enc:=jiq) (size:=2) h1 rfl
  have hs:(j:Int)+1=((j+1:Nat):Int):=by omega
  have l1:=jal (enc:=jdw) (l:=b.instrs)
  rw [jan]
  unfold jkm jww jwv
  simp (disch:=first|omega|simp only[List.length]|apply_rules[jaa,jac,jad]) only [go_sem,jag,eq_true hlt,hix,jaz,hxs,jiq,xB,l1,jw7 h2,hs]
  exact qde hl hp d (j+1) (by omega) ok xB hQ
theorem qdf {idom:List Int} {T:List (Nat×Int)} {l:List Ms.Edg} {b:Blk} {k bB:Nat} (hl:l.length<=10000) (hp:∀ e∈l,e.args.length<=10000/\∀ v∈e.args,KT idom T v k b.instrs.length) {x0 x2 x14 x15 x18 x19 x20 x21 x22 x23 x24 x25 x26 x27 x29 x30 x31 x32 x33:AV} {Q:Ex->St->Prop} :
 ∀ (d j:Nat) (_:j+d=l.length) {hi:Hp} (_:Ok hi) (_:bB<hi.next) (_:hi.get bB=some (.arr [jah jaz b.params,jah jdw b.instrs,jah jhi b.edges] 36)) {x3 x4 x5 x6 x7 x8 x9 x11:AV}
  (hQ:∀ hj x3 x4 x5 x6 x7 x8 x9 x11,Ok hj->hi.next<=hj.next->(∀ n,n<hi.next->hj.get n=hi.get n)->Q (.exit 6) (.mk [x0,.s (jah jfl idom),x2,x3,x4,x5,x6,x7,x8,x9,.s (jah jhi l),x11,vi l.length,vi l.length,x14,x15,vi k,.s (jah jiq T),x18,x19,x20,x21,x22,x23,x24,x25,x26,x27,.s (.ptr bB 0),x29,x30,x31,x32,x33] hj)),
  W F9 jkn.loop (.mk [x0,.s (jah jfl idom),x2,x3,x4,x5,x6,x7,x8,x9,.s (jah jhi l),x11,vi l.length,vi j,x14,x15,vi k,.s (jah jiq T),x18,x19,x20,x21,x22,x23,x24,x25,x26,x27,.s (.ptr bB 0),x29,x30,x31,x32,x33] hi) Q
 | 0,j,hd,hi,ok,hb,xB,x3,x4,x5,x6,x7,x8,x9,x11,hQ=>by
  obtain rfl:j=l.length:=by omega
  rw [jan]
  unfold jkn
  simp (disch:=first|omega|simp only[List.length]|apply_rules[jaa,jac,jad]) only [go_sem,Int.lt_irrefl]
  exact hQ hi _ _ _ _ _ _ _ _ ok (Nat.le_refl _) (fun _ _=>rfl)
 | d+1,j,hd,hi,ok,hb,xB,x3,x4,x5,x6,x7,x8,x9,x11,hQ=>by
  have hlt:(j:Int)<(l.length:Int):=by omega
  obtain ⟨e,hio⟩:∃ y,l[j]?=some y:=⟨_,List.getElem?_eq_getElem (by omega)⟩
  obtain ⟨he1,he2⟩:=hp e (List.mem_of_getElem? hio)
  have hix:=jak (enc:=jhi) (size:=2) hio rfl
  have hs:(j:Int)+1=((j+1:Nat):Int):=by omega
  obtain ⟨hA,eA,okA,nA,xA,gA⟩:=jcs ok [.int .i64 0,.nilSlice] (jhi e) 51
  have yB:=(gA _ hb).trans xB
  have l1:=jal (enc:=jaz) (l:=e.args)
  unfold jhi at xA eA
  rw [jan]
  unfold jkn jwx
  simp (disch:=first|omega|simp only[List.length]|apply_rules[jaa,jac,jad]) only [go_sem,jag,eq_true hlt,hix,jhi,eA,xA,l1]
  refine qde he1 he2 e.args.length 0 (by omega) okA yB (fun x3 x4 x6=>?_)
  simp (disch:=first|omega|simp only[List.length]|apply_rules[jaa,jac,jad]) only [go_sem,jag,hs]
  exact qdf hl hp d (j+1) (by omega) okA (by omega) yB (fun hk x3 x4 x5 x6 x7 x8 x9 x11 o' n' g'=>hQ hk x3 x4 x5 x6 x7 x8 x9 x11 o' (by omega) (fun m hm=>(g' m (by omega)).trans (gA m hm)))
structure UsOk (idom:List Int) (f:Fc):Prop where
 nb:f.blocks.length<=10000
 sz:∀ b∈f.blocks,b.instrs.length<=10000/\b.edges.length<=10000
 us:∀ (k i:Nat) (b:Blk) (x:Ms.Ins),f.blocks[k]?=some b->b.instrs[i]?=some x->x.ops.length<=6/\∀ o∈x.ops,o.kind=1->KT idom (jc0 f) o.value k i
 ed:∀ (k:Nat) (b:Blk) (e:Ms.Edg),f.blocks[k]?=some b->e∈b.edges->e.args.length<=10000/\∀ v∈e.args,KT idom (jc0 f) v k b.instrs.length
theorem qdg {idom:List Int} {f:Fc} (u:UsOk idom f) {x0 x2 x33:AV} {Q:Ex->St->Prop} :
 ∀ (d j:Nat) (_:j+d=f.blocks.length) {hi:Hp} (_:Ok hi) {x3 x4 x5 x6 x7 x8 x9 x10 x11 x12 x13 x14 x15 x16 x18 x19 x20 x21 x22 x23 x24 x25 x26 x27 x28 x30:AV}
  (hQ:∀ hj x3 x4 x5 x6 x7 x8 x9 x10 x11 x12 x13 x14 x15 x16 x18 x19 x20 x21 x22 x23 x24 x25 x26 x27 x28 x30,Q (.exit 0) (.mk [x0,.s (jah jfl idom),x2,x3,x4,x5,x6,x7,x8,x9,x10,x11,x12,x13,x14,x15,x16,.s (jah jiq (jc0 f)),x18,x19,x20,x21,x22,x23,x24,x25,x26,x27,x28,.s (jah ja3 f.blocks),x30,vi f.blocks.length,vi f.blocks.length,x33] hj)),
  W F9 jko.loop (.mk [x0,.s (jah jfl idom),x2,x3,x4,x5,x6,x7,x8,x9,x10,x11,x12,x13,x14,x15,x16,.s (jah jiq (jc0 f)),x18,x19,x20,x21,x22,x23,x24,x25,x26,x27,x28,.s (jah ja3 f.blocks),x30,vi f.blocks.length,vi j,x33] hi) Q
 | 0,j,hd,hi,ok,x3,x4,x5,x6,x7,x8,x9,x10,x11,x12,x13,x14,x15,x16,x18,x19,x20,x21,x22,x23,x24,x25,x26,x27,x28,x30,hQ=>by
  obtain rfl:j=f.blocks.length:=by omega
  rw [jan]
  unfold jko
  simp (disch:=first|omega|simp only[List.length]|apply_rules[jaa,jac,jad]) only [go_sem,Int.lt_irrefl]
  exact hQ hi ..
 | d+1,j,hd,hi,ok,x3,x4,x5,x6,x7,x8,x9,x10,x11,x12,x13,x14,x15,x16,x18,x19,x20,x21,x22,x23,x24,x25,x26,x27,x28,x30,hQ=>by
  have nb:=u.nb
  have hlt:(j:Int)<(f.blocks.length:Int):=by omega
  obtain ⟨b,hio⟩:∃ y,f.blocks[j]?=some y:=⟨_,List.getElem?_eq_getElem (by omega)⟩
  obtain ⟨s1,s2⟩:=u.sz b (List.mem_of_getElem? hio)
  have hix:=jak (enc:=ja3) (size:=3) hio rfl
  have hs:(j:Int)+1=((j+1:Nat):Int):=by omega
  obtain ⟨hA,eA,okA,nA,xA,gA⟩:=jcs ok [.nilSlice,.nilSlice,.nilSlice] (ja3 b) 36
  have l1:=jal (enc:=jdw) (l:=b.instrs)
  have l2:=jal (enc:=jhi) (l:=b.edges)
  unfold ja3 at xA eA
  rw [jan]
  unfold jko jwy
  simp (disch:=first|omega|simp only[List.length]|apply_rules[jaa,jac,jad]) only [go_sem,jag,eq_true hlt,hix,ja3,eA,xA,l1]
  refine qdd s1 (fun i x hx=>u.us j i b x hio hx) b.instrs.length 0 (by omega) okA (fun hj x14 x15 x18 x19 x20 x21 x22 x23 x25 o n g=>?_)
  have yA:=(g _ (by omega)).trans xA
  simp (disch:=first|omega|simp only[List.length]|apply_rules[jaa,jac,jad]) only [go_sem,yA,l2]
  refine qdf s2 (fun e he=>u.ed j b e hio he) b.edges.length 0 (by omega) o (by omega) yA (fun hk x3 x4 x5 x6 x7 x8 x9 x11 o' n' g'=>?_)
  simp (disch:=first|omega|simp only[List.length]|apply_rules[jaa,jac,jad]) only [go_sem,jag,hs]
  exact qdg u d (j+1) (by omega) o' hQ
theorem qkh {h:Hp} {Q:AV->Hp->Prop} {f:Fc} (hl:f.blocks.length<=10000) (hv:f.values.length<=10000) (hne:f.values≠[]) (hp:∀ b∈f.blocks,b.params.length<=10000/\b.instrs.length<=10000/\(∀ v∈b.params,v<f.values.length)/\∀ x∈b.instrs,x.ops.length<=6/\∀ o∈x.ops,o.value<f.values.length) :
 WC F9 61 [.agg [jah jaz f.values,jah ja3 f.blocks]] h Q=Q (.s (jah jiq (jc0 f))) h :=
 jau ((jbj rfl).trans (jbh rfl (by simp only [jat,ja1,ja8,jcd,ja2,ja9,ja6,jbl,jba,jbi,if_true]) (qgv jem hl hv hne hp)))
theorem qki {h:Hp} (ok:Ok h) {idom:List Int} {f:Fc} (u:UsOk idom f) (hv:f.values.length<=10000) (hne:f.values≠[]) (hp:∀ b∈f.blocks,b.params.length<=10000/\b.instrs.length<=10000/\(∀ v∈b.params,v<f.values.length)/\∀ x∈b.instrs,x.ops.length<=6/\∀ o∈x.ops,o.value<f.values.length) :
 WC F9 40 [.agg [jah jaz f.values,jah ja3 f.blocks],.s (jah jfl idom)] h (fun v h'=>∃ d,jhf true h' d v=some (vb true)):=by
 refine jbg (no9 rfl rfl rfl rfl rfl rfl rfl rfl rfl) qgr rfl ?_
 unfold j11
 obtain ⟨hA,eA,okA,nA,xA,gA⟩:=jfk ok [jah jaz f.values,jah ja3 f.blocks] 26
 have l2:=jal (enc:=ja3) (l:=f.blocks)
 simp (disch:=first|omega|simp only[List.length]|apply_rules[jaa,jac,jad]) only [go_sem,eA,xA,qkh u.nb hv hne hp,l2]
 refine qdg u f.blocks.length 0 (by omega) okA (fun hj x3 x4 x5 x6 x7 x8 x9 x10 x11 x12 x13 x14 x15 x16 x18 x19 x20 x21 x22 x23 x24 x25 x26 x27 x28 x30=>?_)
 simp (disch:=first|omega|simp only[List.length]|apply_rules[jaa,jac,jad]) only [go_sem]
 exact ⟨1,rfl⟩
theorem qrs:∀ (s:List Bool),s.length<=5->oG s
 | [],_=>o_
 | [false],_=>o_f
 | [true],_=>o_t
 | [false,false],_=>qtm
 | [false,true],_=>qti
 | [true,false],_=>qta
 | [true,true],_=>qte
 | [false,false,false],_=>qro
 | [false,false,true],_=>qrk
 | [false,true,false],_=>qq0
 | [false,true,true],_=>qqw
 | [true,false,false],_=>qrc
 | [true,false,true],_=>qrg
 | [true,true,false],_=>qq4
 | [true,true,true],_=>qq8
 | [false,false,false,false],_=>qot
 | [false,false,false,true],_=>qoh
 | [false,false,true,false],_=>qnp
 | [false,false,true,true],_=>qn5
 | [false,true,false,false],_=>qnx
 | [false,true,false,true],_=>qod
 | [false,true,true,false],_=>qnd
 | [false,true,true,true],_=>qnl
 | [true,false,false,false],_=>qnh
 | [true,false,false,true],_=>qm9
 | [true,false,true,false],_=>qox
 | [true,false,true,true],_=>qnt
 | [true,true,false,false],_=>qop
 | [true,true,false,true],_=>qn1
 | [true,true,true,false],_=>qn9
 | [true,true,true,true],_=>qol
 | [false,false,false,false,false],_=>qio
 | [false,false,false,false,true],_=>qg8
 | [false,false,false,true,false],_=>qkc
 | [false,false,false,true,true],_=>qj4
 | [false,false,true,false,false],_=>qjs
 | [false,false,true,false,true],_=>qhk
 | [false,false,true,true,false],_=>qh0
 | [false,false,true,true,true],_=>qjg
 | [false,true,false,false,false],_=>qh4
 | [false,true,false,false,true],_=>qig
 | [false,true,false,true,false],_=>qi0
 | [false,true,false,true,true],_=>qjw
 | [false,true,true,false,false],_=>qjc
 | [false,true,true,false,true],_=>qjk
 | [false,true,true,true,false],_=>qj0
 | [false,true,true,true,true],_=>qhc
 | [true,false,false,false,false],_=>qik
 | [true,false,false,false,true],_=>qg4
 | [true,false,false,true,false],_=>qj8
 | [true,false,false,true,true],_=>qhg
 | [true,false,true,false,false],_=>qjo
 | [true,false,true,false,true],_=>qhw
 | [true,false,true,true,false],_=>qic
 | [true,false,true,true,true],_=>qhs
 | [true,true,false,false,false],_=>qho
 | [true,true,false,false,true],_=>qiw
 | [true,true,false,true,false],_=>qi8
 | [true,true,false,true,true],_=>qh8
 | [true,true,true,false,false],_=>qg0
 | [true,true,true,false,true],_=>qis
 | [true,true,true,true,false],_=>qi4
 | [true,true,true,true,true],_=>qgw
 | _::_::_::_::_::_::_,h=>absurd h (by simp)
theorem qrt:∀ (s:List Bool),s.length<=5->nG s
 | [],_=>n_
 | [false],_=>n_f
 | [true],_=>n_t
 | [false,false],_=>qtn
 | [false,true],_=>qtj
 | [true,false],_=>qtb
 | [true,true],_=>qtf
 | [false,false,false],_=>qrp
 | [false,false,true],_=>qrl
 | [false,true,false],_=>qq1
 | [false,true,true],_=>qqx
 | [true,false,false],_=>qrd
 | [true,false,true],_=>qrh
 | [true,true,false],_=>qq5
 | [true,true,true],_=>qq9
 | [false,false,false,false],_=>qou
 | [false,false,false,true],_=>qoi
 | [false,false,true,false],_=>qnq
 | [false,false,true,true],_=>qn6
 | [false,true,false,false],_=>qny
 | [false,true,false,true],_=>qoe
 | [false,true,true,false],_=>qne
 | [false,true,true,true],_=>qnm
 | [true,false,false,false],_=>qni
 | [true,false,false,true],_=>qna
 | [true,false,true,false],_=>qoy
 | [true,false,true,true],_=>qnu
 | [true,true,false,false],_=>qoq
 | [true,true,false,true],_=>qn2
 | [true,true,true,false],_=>qoa
 | [true,true,true,true],_=>qom
 | [false,false,false,false,false],_=>qip
 | [false,false,false,false,true],_=>qg9
 | [false,false,false,true,false],_=>qkd
 | [false,false,false,true,true],_=>qj5
 | [false,false,true,false,false],_=>qjt
 | [false,false,true,false,true],_=>qhl
 | [false,false,true,true,false],_=>qh1
 | [false,false,true,true,true],_=>qjh
 | [false,true,false,false,false],_=>qh5
 | [false,true,false,false,true],_=>qih
 | [false,true,false,true,false],_=>qi1
 | [false,true,false,true,true],_=>qjx
 | [false,true,true,false,false],_=>qjd
 | [false,true,true,false,true],_=>qjl
 | [false,true,true,true,false],_=>qj1
 | [false,true,true,true,true],_=>qhd
 | [true,false,false,false,false],_=>qil
 | [true,false,false,false,true],_=>qg5
 | [true,false,false,true,false],_=>qj9
 | [true,false,false,true,true],_=>qhh
 | [true,false,true,false,false],_=>qjp
 | [true,false,true,false,true],_=>qhx
 | [true,false,true,true,false],_=>qid
 | [true,false,true,true,true],_=>qht
 | [true,true,false,false,false],_=>qhp
 | [true,true,false,false,true],_=>qix
 | [true,true,false,true,false],_=>qi9
 | [true,true,false,true,true],_=>qh9
 | [true,true,true,false,false],_=>qg1
 | [true,true,true,false,true],_=>qit
 | [true,true,true,true,false],_=>qi5
 | [true,true,true,true,true],_=>qgx
 | _::_::_::_::_::_::_,h=>absurd h (by simp)
theorem qru:∀ (s:List Bool),s.length<=5->iG s
 | [],_=>i_
 | [false],_=>i_f
 | [true],_=>i_t
 | [false,false],_=>qto
 | [false,true],_=>qtk
 | [true,false],_=>qtc
 | [true,true],_=>qtg
 | [false,false,false],_=>qrq
 | [false,false,true],_=>qrm
 | [false,true,false],_=>qq2
 | [false,true,true],_=>qqy
 | [true,false,false],_=>qre
 | [true,false,true],_=>qri
 | [true,true,false],_=>qq6
 | [true,true,true],_=>qra
 | [false,false,false,false],_=>qov
 | [false,false,false,true],_=>qoj
 | [false,false,true,false],_=>qnr
 | [false,false,true,true],_=>qn7
 | [false,true,false,false],_=>qnz
 | [false,true,false,true],_=>qof
 | [false,true,true,false],_=>qnf
 | [false,true,true,true],_=>qnn
 | [true,false,false,false],_=>qnj
 | [true,false,false,true],_=>qnb
 | [true,false,true,false],_=>qoz
 | [true,false,true,true],_=>qnv
 | [true,true,false,false],_=>qor
 | [true,true,false,true],_=>qn3
 | [true,true,true,false],_=>qob
 | [true,true,true,true],_=>qon
 | [false,false,false,false,false],_=>qiq
 | [false,false,false,false,true],_=>qha
 | [false,false,false,true,false],_=>qke
 | [false,false,false,true,true],_=>qj6
 | [false,false,true,false,false],_=>qju
 | [false,false,true,false,true],_=>qhm
 | [false,false,true,true,false],_=>qh2
 | [false,false,true,true,true],_=>qji
 | [false,true,false,false,false],_=>qh6
 | [false,true,false,false,true],_=>qii
 | [false,true,false,true,false],_=>qi2
 | [false,true,false,true,true],_=>qjy
 | [false,true,true,false,false],_=>qje
 | [false,true,true,false,true],_=>qjm
 | [false,true,true,true,false],_=>qj2
 | [false,true,true,true,true],_=>qhe
 | [true,false,false,false,false],_=>qim
 | [true,false,false,false,true],_=>qg6
 | [true,false,false,true,false],_=>qka
 | [true,false,false,true,true],_=>qhi
 | [true,false,true,false,false],_=>qjq
 | [true,false,true,false,true],_=>qhy
 | [true,false,true,true,false],_=>qie
 | [true,false,true,true,true],_=>qhu
 | [true,true,false,false,false],_=>qhq
 | [true,true,false,false,true],_=>qiy
 | [true,true,false,true,false],_=>qja
 | [true,true,false,true,true],_=>qia
 | [true,true,true,false,false],_=>qg2
 | [true,true,true,false,true],_=>qiu
 | [true,true,true,true,false],_=>qi6
 | [true,true,true,true,true],_=>qgy
 | _::_::_::_::_::_::_,h=>absurd h (by simp)
theorem qrv:∀ (s:List Bool),s.length<=5->tG s
 | [],_=>t_
 | [false],_=>t_f
 | [true],_=>t_t
 | [false,false],_=>qtp
 | [false,true],_=>qtl
 | [true,false],_=>qtd
 | [true,true],_=>qth
 | [false,false,false],_=>qrr
 | [false,false,true],_=>qrn
 | [false,true,false],_=>qq3
 | [false,true,true],_=>qqz
 | [true,false,false],_=>qrf
 | [true,false,true],_=>qrj
 | [true,true,false],_=>qq7
 | [true,true,true],_=>qrb
 | [false,false,false,false],_=>qow
 | [false,false,false,true],_=>qok
 | [false,false,true,false],_=>qns
 | [false,false,true,true],_=>qn8
 | [false,true,false,false],_=>qn0
 | [false,true,false,true],_=>qog
 | [false,true,true,false],_=>qng
 | [false,true,true,true],_=>qno
 | [true,false,false,false],_=>qnk
 | [true,false,false,true],_=>qnc
 | [true,false,true,false],_=>qo0
 | [true,false,true,true],_=>qnw
 | [true,true,false,false],_=>qos
 | [true,true,false,true],_=>qn4
 | [true,true,true,false],_=>qoc
 | [true,true,true,true],_=>qoo
 | [false,false,false,false,false],_=>qir
 | [false,false,false,false,true],_=>qhb
 | [false,false,false,true,false],_=>qkf
 | [false,false,false,true,true],_=>qj7
 | [false,false,true,false,false],_=>qjv
 | [false,false,true,false,true],_=>qhn
 | [false,false,true,true,false],_=>qh3
 | [false,false,true,true,true],_=>qjj
 | [false,true,false,false,false],_=>qh7
 | [false,true,false,false,true],_=>qij
 | [false,true,false,true,false],_=>qi3
 | [false,true,false,true,true],_=>qjz
 | [false,true,true,false,false],_=>qjf
 | [false,true,true,false,true],_=>qjn
 | [false,true,true,true,false],_=>qj3
 | [false,true,true,true,true],_=>qhf
 | [true,false,false,false,false],_=>qin
 | [true,false,false,false,true],_=>qg7
 | [true,false,false,true,false],_=>qkb
 | [true,false,false,true,true],_=>qhj
 | [true,false,true,false,false],_=>qjr
 | [true,false,true,false,true],_=>qhz
 | [true,false,true,true,false],_=>qif
 | [true,false,true,true,true],_=>qhv
 | [true,true,false,false,false],_=>qhr
 | [true,true,false,false,true],_=>qiz
 | [true,true,false,true,false],_=>qjb
 | [true,true,false,true,true],_=>qib
 | [true,true,true,false,false],_=>qg3
 | [true,true,true,false,true],_=>qiv
 | [true,true,true,true,false],_=>qi7
 | [true,true,true,true,true],_=>qgz
 | _::_::_::_::_::_::_,h=>absurd h (by simp)
theorem jzo {α β:Type} (g:α->β):∀ (l:List α),(l.map (fun v=>(v,g v))).map (·.1)=l
 | []=>rfl
 | a::l=>congrArg (a::·) (jzo g l)
theorem qa6 (b i:Nat) (ops:List Ms.Opd):(evO b i ops).map (·.1)=dfO ops:=jzo _ _
theorem j14 (b:Nat):∀ (l:List Ms.Ins) (i:Nat),(evI b i l).map (·.1)=(l.map jc5).flatten
 | [],i=>rfl
 | x::l,i=>by
  unfold evI
  rw [List.map_append,qa6,j14 b l]
  rfl
theorem juo:∀ (l:List Blk) (k:Nat),(evL k l).map (·.1)=jdb l
 | [],k=>rfl
 | b::l,k=>by
  unfold evL evB evP
  rw [List.map_append,List.map_append,j14,juo l,jzo]
  simp [jdb,jqh]
theorem j8l {b v:Nat} {y:Ms.Ins} (hv:v∈jc5 y):∀ {l:List Ms.Ins} {i j:Nat},l[i]?=some y->(v,(b,((j+i:Nat):Int)))∈evI b j l
 | [],i,j,h=>by simp at h
 | x::l,0,j,h=>by
  simp only [List.getElem?_cons_zero,Option.some.injEq] at h
  subst h
  unfold evI
  exact List.mem_append_left _ (List.mem_map.2 ⟨v,hv,rfl⟩)
 | x::l,i+1,j,h=>by
  simp only [List.getElem?_cons_succ] at h
  unfold evI
  have:=j8l (b:=b) hv (j:=j+1) h
  rw [show j+1+i=j+(i+1) by omega] at this
  exact List.mem_append_right _ this
theorem j8m {v b:Nat} {n:Int}:∀ {l:List Blk} {k:Nat} {i:Nat},b=k+i->jzn l v i n->(v,(b,n))∈evL k l
 | [],k,i,e,h=>by
  obtain ⟨x,h1,_⟩:=h
  simp at h1
 | x::l,k,0,e,h=>by
  obtain ⟨y,h1,h2⟩:=h
  simp only [List.getElem?_cons_zero,Option.some.injEq] at h1
  subst h1
  rw [Nat.add_zero] at e
  subst e
  unfold evL evB
  refine List.mem_append_left _ ?_
  rcases h2 with ⟨rfl,h2⟩ | ⟨i,y,rfl,h2,h3⟩
  ·exact List.mem_append_left _ (List.mem_map.2 ⟨v,h2,rfl⟩)
  ·have:=j8l (b:=b) h3 (j:=0) h2
   rw [Nat.zero_add] at this
   exact List.mem_append_right _ this
 | x::l,k,i+1,e,h=>by
  unfold evL
  refine List.mem_append_right _ (j8m (i:=i) (by omega) ?_)
  obtain ⟨y,h1,h2⟩:=h
  exact ⟨y,by simpa using h1,h2⟩
theorem j8n {v:Nat}:∀ (l:List (Nat×(Nat×Int))) (T:List (Nat×Int)),v∉l.map (·.1)->(spF T l)[v]?=T[v]?
 | [],T,_=>rfl
 | e::l,T,h=>by
  simp only [List.map_cons,List.mem_cons,not_or] at h
  show (spF (T.set e.1 e.2) l)[v]?=_
  rw [j8n l _ h.2,List.getElem?_set_ne (fun x=>h.1 x.symm)]
theorem j8o {v:Nat} {p:Nat×Int}:∀ (l:List (Nat×(Nat×Int))) (T:List (Nat×Int)),(l.map (·.1)).Nodup->v<T.length->(v,p)∈l->(spF T l)[v]?=some p
 | [],T,_,_,h=>by cases h
 | e::l,T,hd,hv,h=>by
  rw [List.map_cons,List.nodup_cons] at hd
  show (spF (T.set e.1 e.2) l)[v]?=_
  rcases List.mem_cons.1 h with rfl | h
  ·rw [j8n l _ hd.1,List.getElem?_set_self hv]
  ·exact j8o l _ hd.2 (by rw [List.length_set];exact hv) h
theorem qa7 {f:Fc} (hm:(jdb f.blocks).Perm (List.range f.values.length)) {v b:Nat} {n:Int} (h:jzn f.blocks v b n):(jc0 f)[v]?=some (b,n):=by
 have hmem:=j8m (k:=0) (i:=b) (Nat.zero_add b).symm h
 have hk:v∈jdb f.blocks:=by rw [←juo f.blocks 0];exact List.mem_map.2 ⟨_,hmem,rfl⟩
 have hv:v<f.values.length:=List.mem_range.1 (hm.mem_iff.1 hk)
 unfold jc0
 exact j8o _ _ (by rw [juo];exact hm.nodup_iff.2 List.nodup_range) (by rw [List.length_replicate];exact hv) hmem
theorem juj.kt {f:Fc} (hm:(jdb f.blocks).Perm (List.range f.values.length)) {idom:List Int} {v k i:Nat} (h:juj idom f.blocks v k i):KT idom (jc0 f) v k i:=by
 obtain ⟨b,n,h1,h2⟩:=h
 exact ⟨(b,n),qa7 hm h1,h2⟩
def gPs (l:List Blk) (k:Nat):SV:=jah jaz (l.getD k jg9).params
def gIs (l:List Blk) (k:Nat):SV:=jah jdw (l.getD k jg9).instrs
def gAs (l:List Blk) (k j:Nat):SV:=jah jaz ((l.getD k jg9).edges.getD j ⟨0,[]⟩).args
theorem j8p (a:Nat->SV):∀ (r p:List Ms.Edg),(∀ j,a j=jah jaz ((p++r).getD j ⟨0,[]⟩).args)->qpg a p.length (r.map (·.block))=r.map jhi
 | [],p,h=>rfl
 | e::r,p,h=>by
  show [si e.block,a p.length]::qpg a (p.length+1) (r.map (·.block))=jhi e::r.map jhi
  have h1:a p.length=jah jaz e.args:=by
   rw [h,List.getD_eq_getElem?_getD,List.getElem?_append_right (Nat.le_refl _)];simp
  have h2:=j8p a r (p++[e]) (fun j=>by rw [h];simp)
  rw [List.length_append] at h2
  rw [h1]
  exact congrArg _ h2
theorem qkj (a:Nat->SV) (l:List Ms.Edg) (h:∀ j,a j=jah jaz (l.getD j ⟨0,[]⟩).args):qph a (l.map (·.block))=jah jhi l:=by
 cases l with
 | nil=>rfl
 | cons e r =>
  have:=j8p a (e::r) [] (by simpa using h)
  exact congrArg SV.lst this
theorem j15 (l:List Blk):∀ (r p:List Blk),p++r=l->j76 (gPs l) (gIs l) (gAs l) p.length (grL r)=r.map ja3
 | [],p,h=>rfl
 | b::r,p,h=>by
  have hb:l.getD p.length jg9=b:=by rw [←h,List.getD_eq_getElem?_getD,List.getElem?_append_right (Nat.le_refl _)];simp
  show [gPs l p.length,gIs l p.length,qph (gAs l p.length) (qc4 b)]::j76 (gPs l) (gIs l) (gAs l) (p.length+1) (grL r)=ja3 b::r.map ja3
  have h1:qph (gAs l p.length) (qc4 b)=jah jhi b.edges:=qkj _ _ (fun j=>by unfold gAs;rw [hb])
  have h2:=j15 l r (p++[b]) (by rw [←h];simp)
  rw [List.length_append] at h2
  rw [h1]
  unfold gPs gIs
  rw [hb]
  exact congrArg _ h2
theorem jup {f:Fc} (hne:f.blocks≠[]):[jah jaz f.values,jah ja3 f.blocks]=qpi (grL f.blocks) (jah jaz f.values) (gPs f.blocks) (gIs f.blocks) (gAs f.blocks):=by
 have h:=j15 f.blocks f.blocks [] rfl
 unfold qpi
 rw [show j76 (gPs f.blocks) (gIs f.blocks) (gAs f.blocks) 0 (grL f.blocks)=f.blocks.map ja3 from h]
 cases e:f.blocks with
 | nil=>exact absurd e hne
 | cons b r=>rfl
section
variable {f:Fc} {s:List Bool} {h:Hp} {Q:AV->Hp->Prop}
theorem qa8 (hs:s.length<=5) (hg:grL f.blocks=gS s) (hne:f.blocks≠[]):jdy F8 38 [.agg [jah jaz f.values,jah ja3 f.blocks]] h=some (.s (jah jaz (jp0 s 0)),h) :=
 jbh rfl (by simp only [jat,ja1,ja8,jcd,ja2,ja9,ja6,jbl,jba,jbi,if_true]) (by rw [jup hne,hg];exact jkh (qrs s hs _ _ _ _))
theorem qkk (hs:s.length<=5) (hg:grL f.blocks=gS s) (hne:f.blocks≠[]):jdy F8 39 [.agg [jah jaz f.values,jah ja3 f.blocks]] h=some (.s (jah jui (jqj (gS s))),h) :=
 jbh rfl (by simp only [jat,ja1,ja8,jcd,ja2,ja9,ja6,jbl,jba,jbi,if_true]) (by rw [jup hne,hg];exact jkh (qrt s hs _ _ _ _))
theorem qa9 (hs:s.length<=5) (hg:grL f.blocks=gS s) (hne:f.blocks≠[]):jdy F8 41 [.agg [jah jaz f.values,jah ja3 f.blocks],.s (jah jaz (jp0 s 0))] h=some (.s (jah jfl (jbd s)),h) :=
 jbh rfl (by simp only [jat,ja1,ja8,jcd,ja2,ja9,ja6,jbl,jba,jbi,if_true]) (by rw [jup hne,hg];exact jkh (qru s hs _ _ _ _))
theorem qkl (hs:s.length<=5) (hg:grL f.blocks=gS s) (hne:f.blocks≠[]):jdy F8 42 [.agg [jah jaz f.values,jah ja3 f.blocks]] h=some (.agg (j3i (jp0 s 0) (jbd s) (j86 s)),h) :=
 jbh rfl (by simp only [jat,ja1,ja8,jcd,ja2,ja9,ja6,jbl,jba,jbi,if_true]) (by rw [jup hne,hg];exact jkh (qrv s hs _ _ _ _))
end
def shp:Nat->List (List Bool)
 | 0=>[[]]
 | n+1=>[]::((shp n).map (false::·)++(shp n).map (true::·))
theorem j8q:∀ (n:Nat) (s:List Bool),s.length<=n->s∈shp n
 | 0,s,h=>by
  have:=List.eq_nil_of_length_eq_zero (Nat.le_zero.1 h)
  subst this;exact List.mem_singleton.2 rfl
 | n+1,[],h=>by unfold shp;simp
 | n+1,b::s,h=>by
  have:=j8q n s (by simpa using h)
  unfold shp
  refine List.mem_cons_of_mem _ (List.mem_append.2 ?_)
  cases b
  ·exact .inl (List.mem_map.2 ⟨s,this,rfl⟩)
  ·exact .inr (List.mem_map.2 ⟨s,this,rfl⟩)
theorem jzp {P:List Bool->Bool} (h:(shp 5).all P=true) {s:List Bool} (hs:s.length<=5):P s=true:=List.all_eq_true.1 h s (j8q 5 s hs)
def qsg (g:List (List Nat)):Bool:=g.all (fun es=>es.length<=1||es.all (fun t=>((jqj g).getD t [0,0]).length<=1))
theorem qba:(shp 5).all (fun s=>qsg (gS s))=true:=by kernel_rfl
theorem juq:∀ (s:List Bool) (c:Nat),(jp0 s c).length=1+3*s.length
 | [],c=>rfl
 | false::s,c=>by simp [jp0,juq s];omega
 | true::s,c=>by simp [jp0,juq s];omega
structure FlOk (m:Nat×Nat) (f:Fc) (s:List Bool):Prop where
 k:FcOk m f
 on:jpz f=0
 hs:s.length<=5
 hg:grL f.blocks=gS s
 hv:f.values≠[]
 us:UsOk (jbd s) f
theorem FlOk.hne {m:Nat×Nat} {f:Fc} {s:List Bool} (o:FlOk m f s):f.blocks≠[]:=List.length_pos_iff.1 (by have:=o.k.nb;omega)
theorem FlOk.len {m:Nat×Nat} {f:Fc} {s:List Bool} (o:FlOk m f s):f.blocks.length=1+3*s.length:=by rw [←jeb,o.hg,j78]
theorem qkm {m:Nat×Nat} (m1:2<=m.1/\m.1<=10) (m2:2<=m.2/\m.2<=10) (l:List Pc):∃ s,FlOk m (jfo m l) s/\(jdb (jfo m l).blocks).Perm (List.range (jfo m l).values.length) /\
 (∀ (k i:Nat) (b:Blk) (x:Ms.Ins) (o:Ms.Opd),(jfo m l).blocks[k]?=some b->b.instrs[i]?=some x->o∈x.ops->o.kind=1->juj (jbd s) (jfo m l).blocks o.value k i):=by
 obtain ⟨k,kp,_⟩:=j1c m1 m2 l
 obtain ⟨s,h1,h2,h3,h4⟩:=j3j m1 m2 l
 have hv:(jfo m l).values≠[]:=by
  obtain ⟨b,g,c,n,_⟩:=((jkf m1 m2).pieces (l.take 24)).bd.lay ⟨0,0,1,0,0,0,3⟩
  obtain ⟨_,_,_,_,_,_,_,_,cs,e1,e2,_⟩:=qfs ((jkf m1 m2).pieces (l.take 24)).v ⟨0,0,1,0,0,0,3⟩
  have:(jfo m l).values=(jcn ((l.take 24).foldl jbu (jbr m)) ⟨0,0,1,0,0,0,3⟩).values:=rfl
  rw [this,e2]
  rcases e1 with rfl | rfl<;>simp
 refine ⟨s,⟨k,qa1 kp,h1,h2,hv,⟨by have:=k.nb;omega,fun b hb=>by have:=k.blk b hb;omega,fun a i b x hb hx=>⟨(k.ins b (List.mem_of_getElem? hb) x (List.mem_of_getElem? hx)).nops,fun o ho hk=>juj.kt kp (h3 a i b x o hb hx ho hk)⟩,fun a b e hb he=>⟨?_,fun v hv=>juj.kt kp (h4 a b e v hb he hv)⟩⟩⟩,kp,h3⟩
 obtain ⟨_,_,t,h5,h6,_⟩:=k.edg b (List.mem_of_getElem? hb) e he
 have h7:=(k.blk t (List.mem_of_getElem? h5)).1
 have:=congrArg List.length h6
 simp only [List.length_map] at this
 omega
def S10 (f:FuncId):Bool:=Nat.beq f 40
noncomputable def F10:Fns:=PX S10 F9
theorem qrw {A:Nat->Int}:Env Try.prog A tys F10:=jhd qtr
theorem qsh {f:FuncId} (h1:S1 f=false) (h2:Nat.beq f jfg.f=false) (h3:S3 f=false) (h4:S4 f=false) (h5:S5 f=false) (h6:S6 f=false) (h7:S7 f=false) (h8:S8 f=false) (h9:S9 f=false) (h10:S10 f=false) {vs:List AV} {h:Hp}:jdy F10 f vs h=none:=(jbj h10).trans (no9 h1 h2 h3 h4 h5 h6 h7 h8 h9)
section
variable {h:Hp} {m:Nat×Nat} {f:Fc} {s:List Bool} {Q:AV->Hp->Prop}
theorem qk4 {g:FuncId} (h9:S9 g=false) (h10:S10 g=false) {vs:List AV}:jdy F10 g vs h=jdy F8 g vs h:=(jbj h10).trans (jbj h9)
theorem qbb (o:FlOk m f s) (m1:2<=m.1/\m.1<=10) (m2:2<=m.2/\m.2<=10):WC F10 19 [.agg [jah jaz f.values,jah ja3 f.blocks],.agg [si m.1,si m.2]] h Q=Q (vi 0) h :=
 jau ((qk4 rfl rfl).trans ((jbj rfl).trans (by rw [qm5 o.k m1 m2,o.on];rfl)))
theorem jrq (o:FlOk m f s):WC F10 38 [.agg [jah jaz f.values,jah ja3 f.blocks]] h Q=Q (.s (jah jaz (jp0 s 0))) h:=jau ((qk4 rfl rfl).trans (qa8 o.hs o.hg o.hne))
theorem j8r (o:FlOk m f s):WC F10 39 [.agg [jah jaz f.values,jah ja3 f.blocks]] h Q=Q (.s (jah jui (jqj (gS s)))) h:=jau ((qk4 rfl rfl).trans (qkk o.hs o.hg o.hne))
theorem j3k (o:FlOk m f s):WC F10 41 [.agg [jah jaz f.values,jah ja3 f.blocks],.s (jah jaz (jp0 s 0))] h Q=Q (.s (jah jfl (jbd s))) h:=jau ((qk4 rfl rfl).trans (qa9 o.hs o.hg o.hne))
theorem qbc (o:FlOk m f s):WC F10 40 [.agg [jah jaz f.values,jah ja3 f.blocks],.s (jah jfl (jbd s))] h Q=Q (vb true) h :=
 jau (jbh rfl (by simp only [jat,ja1,ja8,jcd,ja2,ja9,ja6,jbl,jba,jbi,if_true]) (qki jem o.us (by have:=o.k.nv;omega) o.hv (jzl o.k)))
end
theorem FlOk.pred {m:Nat×Nat} {f:Fc} {s:List Bool} (o:FlOk m f s) {b:Blk} (hb:b∈f.blocks) (h:1<b.edges.length) {e:Ms.Edg} (he:e∈b.edges):∃ pl,(jqj (gS s))[e.block]?=some pl/\pl.length<=1:=by
 have h1:=jzp qba o.hs
 unfold qsg at h1
 rw [List.all_eq_true] at h1
 have h2:=h1 (qc4 b) (by rw [←o.hg];exact List.mem_map.2 ⟨b,hb,rfl⟩)
 simp only [Bool.or_eq_true,decide_eq_true_eq,List.all_eq_true] at h2
 have h3:=h2.resolve_left (by unfold qc4;rw [List.length_map];omega) e.block (List.mem_map.2 ⟨e,he,rfl⟩)
 rw [List.getD_eq_getElem?_getD] at h3
 cases hq:(jqj (gS s))[e.block]? with
 | none=>rw [hq] at h3;simp at h3
 | some pl=>rw [hq] at h3;exact ⟨pl,rfl,h3⟩
theorem j8s {m:Nat×Nat} {f:Fc} {s:List Bool} (o:FlOk m f s) {b:Blk} (hb:b∈f.blocks) {bB:Nat} {x0 x1 x2 x3 x12 x13 x14 x15 x16 x17 x18 x19 x20:AV} {Q:Ex->St->Prop} :
 ∀ (d j:Nat) (_:j+d=b.edges.length) {hi:Hp} (_:Ok hi) (_:bB<hi.next) (_:hi.get bB=some (.arr [jah jaz b.params,jah jdw b.instrs,jah jhi b.edges] 36)) {x4 x5 x8:AV}
  (hQ:∀ hj x4 x5 x8,Ok hj->hi.next<=hj.next->(∀ n,n<hi.next->hj.get n=hi.get n)->Q (.exit 2) (.mk [x0,x1,x2,x3,x4,x5,.s (jah jui (jqj (gS s))),.s (jah jhi b.edges),x8,vi b.edges.length,vi b.edges.length,.s (.ptr bB 0),x12,x13,x14,x15,x16,x17,x18,x19,x20] hj)),
  W F10 jkp.loop (.mk [x0,x1,x2,x3,x4,x5,.s (jah jui (jqj (gS s))),.s (jah jhi b.edges),x8,vi b.edges.length,vi j,.s (.ptr bB 0),x12,x13,x14,x15,x16,x17,x18,x19,x20] hi) Q
 | 0,j,hd,hi,ok,hB,xB,x4,x5,x8,hQ=>by
  obtain rfl:j=b.edges.length:=by omega
  rw [jan]
  unfold jkp
  simp (disch:=first|omega|simp only[List.length]|apply_rules[jaa,jac,jad]) only [go_sem,Int.lt_irrefl]
  exact hQ hi _ _ _ ok (Nat.le_refl _) (fun _ _=>rfl)
 | d+1,j,hd,hi,ok,hB,xB,x4,x5,x8,hQ=>by
  have hlt:(j:Int)<(b.edges.length:Int):=by omega
  have hne:=(o.k.blk b hb).2.2
  obtain ⟨e,hio⟩:∃ y,b.edges[j]?=some y:=⟨_,List.getElem?_eq_getElem (by omega)⟩
  have hix:=jak (enc:=jhi) (size:=2) hio rfl
  have hs:(j:Int)+1=((j+1:Nat):Int):=by omega
  obtain ⟨hA,eA,okA,nA,xA,gA⟩:=jcs ok [.int .i64 0,.nilSlice] (jhi e) 51
  have yB:=(gA _ hB).trans xB
  have l2:=jal (enc:=jhi) (l:=b.edges)
  unfold jhi at xA eA
  rw [jan]
  unfold jkp jw1
  by_cases h1:1<b.edges.length
  ·have c1:(1<(b.edges.length:Int))=True:=by simp;omega
   obtain ⟨pl,h2,h3⟩:=o.pred hb h1 (List.mem_of_getElem? hio)
   have hxp:=jak (enc:=jui) (size:=1) h2 rfl
   have l3:=jal (enc:=jaz) (l:=pl)
   have c2:(1<(pl.length:Int))=False:=by simp;omega
   simp (disch:=first|omega|simp only[List.length]|apply_rules[jaa,jac,jad]) only [go_sem,jag,eq_true hlt,hix,jhi,eA,xA,yB,l2,c1,hxp,jui,l3,c2,hs]
   exact j8s o hb d (j+1) (by omega) okA (by omega) yB (fun hj x4 x5 x8 ok' n g=>hQ hj x4 x5 x8 ok' (by omega) (fun q hq=>(g q (by omega)).trans (gA q hq)))
  ·have c1:(1<(b.edges.length:Int))=False:=by simp;omega
   simp (disch:=first|omega|simp only[List.length]|apply_rules[jaa,jac,jad]) only [go_sem,jag,eq_true hlt,hix,jhi,eA,xA,yB,l2,c1,hs]
   exact j8s o hb d (j+1) (by omega) okA (by omega) yB (fun hj x4 x5 x8 ok' n g=>hQ hj x4 x5 x8 ok' (by omega) (fun q hq=>(g q (by omega)).trans (gA q hq)))
theorem qdh {m:Nat×Nat} {f:Fc} {s:List Bool} (o:FlOk m f s) {bF:Nat} {x0 x1 x2 x3 x16 x17 x18 x19:AV} {Q:Ex->St->Prop} :
 ∀ (d j:Nat) (_:j+d=f.blocks.length) {hi:Hp} (_:Ok hi) (_:bF<hi.next) {x4 x5 x7 x8 x9 x10 x11 x13:AV}
  (hQ:∀ hj x4 x5 x7 x8 x9 x10 x11 x13,Ok hj->hi.next<=hj.next->hj.get bF=hi.get bF->Q (.exit 0) (.mk [x0,x1,x2,x3,x4,x5,.s (jah jui (jqj (gS s))),x7,x8,x9,x10,x11,.s (jah ja3 f.blocks),x13,vi f.blocks.length,vi f.blocks.length,x16,x17,x18,x19,.s (.ptr bF 0)] hj)),
  W F10 jkq.loop (.mk [x0,x1,x2,x3,x4,x5,.s (jah jui (jqj (gS s))),x7,x8,x9,x10,x11,.s (jah ja3 f.blocks),x13,vi f.blocks.length,vi j,x16,x17,x18,x19,.s (.ptr bF 0)] hi) Q
 | 0,j,hd,hi,ok,hB,x4,x5,x7,x8,x9,x10,x11,x13,hQ=>by
  obtain rfl:j=f.blocks.length:=by omega
  rw [jan]
  unfold jkq
  simp (disch:=first|omega|simp only[List.length]|apply_rules[jaa,jac,jad]) only [go_sem,Int.lt_irrefl]
  exact hQ hi _ _ _ _ _ _ _ _ ok (Nat.le_refl _) rfl
 | d+1,j,hd,hi,ok,hB,x4,x5,x7,x8,x9,x10,x11,x13,hQ=>by
  have nb:=o.k.nb
  have hlt:(j:Int)<(f.blocks.length:Int):=by omega
  obtain ⟨b,hio⟩:∃ y,f.blocks[j]?=some y:=⟨_,List.getElem?_eq_getElem (by omega)⟩
  have hbm:=List.mem_of_getElem? hio
  have hix:=jak (enc:=ja3) (size:=3) hio rfl
  have hs:(j:Int)+1=((j+1:Nat):Int):=by omega
  obtain ⟨hA,eA,okA,nA,xA,gA⟩:=jcs ok [.nilSlice,.nilSlice,.nilSlice] (ja3 b) 36
  have l2:=jal (enc:=jhi) (l:=b.edges)
  unfold ja3 at xA eA
  rw [jan]
  unfold jkq jw2
  simp (disch:=first|omega|simp only[List.length]|apply_rules[jaa,jac,jad]) only [go_sem,jag,eq_true hlt,hix,ja3,eA,xA,l2]
  refine j8s o hbm b.edges.length 0 (by omega) okA (by omega) xA (fun hj x4 x5 x8 ok' n g=>?_)
  simp (disch:=first|omega|simp only[List.length]|apply_rules[jaa,jac,jad]) only [go_sem,jag,hs]
  exact qdh o d (j+1) (by omega) ok' (by omega) (fun hk x4 x5 x7 x8 x9 x10 x11 x13 o' n' g'=>hQ hk x4 x5 x7 x8 x9 x10 x11 x13 o' (by omega) (g'.trans ((g _ (by omega)).trans (gA _ hB))))
theorem qkn {h:Hp} (ok:Ok h) {m:Nat×Nat} {f:Fc} {s:List Bool} (o:FlOk m f s) (m1:2<=m.1/\m.1<=10) (m2:2<=m.2/\m.2<=10):WC F10 22 [.agg [jah jaz f.values,jah ja3 f.blocks],.agg [si m.1,si m.2]] h (fun v h'=>∃ d,jhf true h' d v=some (vi 0)):=by
 refine jbg (qsh rfl rfl rfl rfl rfl rfl rfl rfl rfl rfl) qgt rfl ?_
 unfold j13
 obtain ⟨hA,eA,okA,nA,xA,gA⟩:=jfk ok [jah jaz f.values,jah ja3 f.blocks] 26
 obtain ⟨hB,eB,okB,nB,xB,gB⟩:=jfk okA [si m.1,si m.2] 30
 have yA:=(gB _ (by omega)).trans xA
 rw [nA] at xB
 have l2:=jal (enc:=ja3) (l:=f.blocks)
 have l3:=jal (enc:=jaz) (l:=jp0 s 0)
 have c1:(((jp0 s 0).length:Int)<(f.blocks.length:Int))=False:=eq_false (by rw [juq,o.len];omega)
 have hh:(hB.next<=h.next/\h.next<hB.next)=False:=eq_false (by omega)
 simp (disch:=first|omega|simp only[List.length]|apply_rules[jaa,jac,jad]) only [go_sem,eA,eB,nA,yA,xB,qbb o m1 m2]
 unfold jw6 jw0
 simp (disch:=first|omega|simp only[List.length]|apply_rules[jaa,jac,jad]) only [go_sem,yA,xB,jrq o,l3,l2,c1,hh]
 unfold jw5
 simp (disch:=first|omega|simp only[List.length]|apply_rules[jaa,jac,jad]) only [go_sem,yA,j8r o,l2]
 refine qdh o f.blocks.length 0 (by omega) okB (by omega) (fun hj x4 x5 x7 x8 x9 x10 x11 x13 o' n g=>?_)
 have zA:=g.trans yA
 have hh:(hj.next<=h.next/\h.next<hj.next)=False:=eq_false (by omega)
 unfold jw3
 simp (disch:=first|omega|simp only[List.length]|apply_rules[jaa,jac,jad]) only [go_sem,zA,jrq o,j3k o,qbc o,hh]
 unfold jw4
 simp (disch:=first|omega|simp only[List.length]|apply_rules[jaa,jac,jad]) only [go_sem]
 exact ⟨1,rfl⟩
open Go Go.RowKit
def S11 (f:FuncId):Bool:=Nat.beq f 22
noncomputable def F11:Fns:=PX S11 F10
theorem qrx {A:Nat->Int}:Env Try.prog A tys F11:=jhd qrw
theorem qsi {f:FuncId} (h1:S1 f=false) (h2:Nat.beq f jfg.f=false) (h3:S3 f=false) (h4:S4 f=false) (h5:S5 f=false) (h6:S6 f=false) (h7:S7 f=false) (h8:S8 f=false) (h9:S9 f=false) (h10:S10 f=false) (h11:S11 f=false) {vs:List AV} {h:Hp}:jdy F11 f vs h=none:=(jbj h11).trans (qsh h1 h2 h3 h4 h5 h6 h7 h8 h9 h10)
section
variable {h:Hp} {m:Nat×Nat} {f:Fc} {s:List Bool} {Q:AV->Hp->Prop}
theorem qko (o:FlOk m f s) (m1:2<=m.1/\m.1<=10) (m2:2<=m.2/\m.2<=10):jdy F11 22 [.agg [jah jaz f.values,jah ja3 f.blocks],.agg [si m.1,si m.2]] h=some (vi 0,h):=jbh rfl (by simp only [jat,ja1,ja8,jcd,ja2,ja9,ja6,jbl,jba,jbi,if_true]) (qkn jem o m1 m2)
theorem j8t (o:FlOk m f s):WC F11 42 [.agg [jah jaz f.values,jah ja3 f.blocks]] h Q=Q (.agg (j3i (jp0 s 0) (jbd s) (j86 s))) h :=
 jau ((jbj rfl).trans ((qk4 rfl rfl).trans (qkl o.hs o.hg o.hne)))
theorem qbd (o:FlOk m f s) (m1:2<=m.1/\m.1<=10) (m2:2<=m.2/\m.2<=10):WC F11 22 [.agg [jah jaz f.values,jah ja3 f.blocks],.agg [si m.1,si m.2]] h Q=Q (vi 0) h:=jau (qko o m1 m2)
end
def qbe (s:List Bool):AV:=.tup [(true,j3i (jp0 s 0) (jbd s) (j86 s)),(false,[si 0])]
theorem jur {α:Type} {h:Hp} {d:Nat} {enc:α->List SV} {l:List α}:ji2 true h (d+1) (jah enc l)=some (jah enc l):=by cases l<;>rfl
theorem qbf {h:Hp} {s:List Bool}:jhf true h 2 (.tup [(true,[jah jaz (jp0 s 0),jah jfl (jbd s),jah jaz (j86 s)]),(false,[.int .i64 0])])=some (qbe s):=by
 show ob (ob (jim (ji2 true h 2) [jah jaz (jp0 s 0),jah jfl (jbd s),jah jaz (j86 s)]) (fun x=>ob (qbw (ji2 true h 2) [(false,[.int .i64 0])]) (fun r=>some ((true,x)::r)))) (fun y=>some (AV.tup y))=_
 rw [jco jur (jco jur (qab jur))]
 rfl
theorem qkp {h:Hp} (ok:Ok h) {m:Nat×Nat} {f:Fc} {s:List Bool} (o:FlOk m f s) (m1:2<=m.1/\m.1<=10) (m2:2<=m.2/\m.2<=10):WC F11 23 [.agg [jah jaz f.values,jah ja3 f.blocks],.agg [si m.1,si m.2]] h (fun v h'=>∃ d,jhf true h' d v=some (qbe s)):=by
 refine jbg (qsi rfl rfl rfl rfl rfl rfl rfl rfl rfl rfl rfl) qqv rfl ?_
 unfold qc9
 obtain ⟨hA,eA,okA,nA,xA,gA⟩:=jfk ok [jah jaz f.values,jah ja3 f.blocks] 26
 obtain ⟨hB,eB,okB,nB,xB,gB⟩:=jfk okA [si m.1,si m.2] 30
 obtain ⟨hC,eC,okC,nC,xC,gC⟩:=jfk okB [.nilSlice,.nilSlice,.nilSlice] 53
 have yA:=(gC _ (by omega)).trans ((gB _ (by omega)).trans xA)
 have yB:=(gC _ (by omega)).trans xB
 have nb:hB.next=h.next+2:=by omega
 rw [nA] at yB
 rw [nb] at xC
 simp (disch:=first|omega|simp only[List.length]|apply_rules[jaa,jac,jad]) only [go_sem,eA,eB,eC,nA,nb,yA,yB,qbd o m1 m2]
 unfold j8f
 simp (disch:=first|omega|simp only[List.length]|apply_rules[jaa,jac,jad]) only [go_sem,yA,j8t o,j3i,xC]
 exact ⟨2,qbf⟩
def S12 (f:FuncId):Bool:=Nat.beq f 23
noncomputable def F12:Fns:=PX S12 F11
theorem qry {A:Nat->Int}:Env Try.prog A tys F12:=jhd qrx
theorem qsj {f:FuncId} (h1:S1 f=false) (h2:Nat.beq f jfg.f=false) (h3:S3 f=false) (h4:S4 f=false) (h5:S5 f=false) (h6:S6 f=false) (h7:S7 f=false) (h8:S8 f=false) (h9:S9 f=false) (h10:S10 f=false) (h11:S11 f=false) (h12:S12 f=false) {vs:List AV} {h:Hp}:jdy F12 f vs h=none:=(jbj h12).trans (qsi h1 h2 h3 h4 h5 h6 h7 h8 h9 h10 h11)
section
variable {h:Hp} {m:Nat×Nat} {f:Fc} {s:List Bool} {Q:AV->Hp->Prop}
theorem qo1 {g:FuncId} (h4:S4 g=false) (h5:S5 g=false) (h6:S6 g=false) (h7:S7 g=false) (h8:S8 g=false) (h9:S9 g=false) (h10:S10 g=false) (h11:S11 g=false) (h12:S12 g=false) {vs:List AV}:jdy F12 g vs h=jdy F3 g vs h :=
 (jbj h12).trans ((jbj h11).trans ((qk4 h9 h10).trans ((jbj h8).trans (qs9 h4 h5 h6 h7))))
end
end Go.Proofs.Ytaljcpoopmedmaa.Ev
