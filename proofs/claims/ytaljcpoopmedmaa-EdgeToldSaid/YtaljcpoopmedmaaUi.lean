/- Is each value made where it is used? What the code tells. -/
import Derived.Test.YtaljcpoopmedmaaUe
import Derived.Test.YtaljcpoopmedmaaGT1
import Derived.Test.YtaljcpoopmedmaaGT3
import Derived.Test.YtaljcpoopmedmaaGT5
import Derived.Test.YtaljcpoopmedmaaGT7
namespace Go.Proofs.Ytaljcpoopmedmaa.Ev
open Go Go.RowKit Go.Proofs.Ytaljcpoopmedmaa.Ms
attribute [local go_sem] Int.cast_ofNat_Int Int.natCast_zero Int.natCast_one decide_eq_true_eq decide_eq_false_iff_not Bool.false_eq_true and_true true_and List.cons_append List.nil_append reduceCtorEq decide_true decide_false Bool.not_true Bool.not_false Nat.add_zero Nat.zero_add Option.some.injEq Bool.true_eq_false not_true_eq_false not_false_eq_true Hp.next_push Hp.next_put Nat.add_assoc Int.reduceToNat Nat.reduceAdd Nat.reduceMul Nat.reduceEqDiff Int.reduceEq Int.reduceLT Int.reduceLE Int.reduceNeg Int.reduceAdd Int.reduceSub Int.reduceMul Int.reduceNe
attribute [local go_sem ↓] reduceIte
set_option linter.all false
set_option maxRecDepth 100000
set_option maxHeartbeats 2000000
def S8 (f:FuncId):Bool:=Nat.beq f 74||(Nat.beq f 61||(Nat.beq f 38||(Nat.beq f 39||(Nat.beq f 41||Nat.beq f 42))))
noncomputable def F8:Fns:=PX S8 F7
theorem qsc {A:Nat->Int}:Env Try.prog A tys F8:=ji0 qrz
theorem no8 {f:FuncId} (h1:S1 f=false) (h2:Nat.beq f jgz.f=false) (h3:S3 f=false) (h4:S4 f=false) (h5:S5 f=false) (h6:S6 f=false) (h7:S7 f=false) (h8:S8 f=false) {vs:List AV} {h:Hp}:jd9 F8 f vs h=none:=(jbm h8).trans (no7 h1 h2 h3 h4 h5 h6 h7)
def S9 (f:FuncId):Bool:=Nat.beq f 62
noncomputable def F9:Fns:=PX S9 F8
theorem qsd {A:Nat->Int}:Env Try.prog A tys F9:=ji0 qsc
theorem no9 {f:FuncId} (h1:S1 f=false) (h2:Nat.beq f jgz.f=false) (h3:S3 f=false) (h4:S4 f=false) (h5:S5 f=false) (h6:S6 f=false) (h7:S7 f=false) (h8:S8 f=false) (h9:S9 f=false) {vs:List AV} {h:Hp}:jd9 F9 f vs h=none:=(jbm h9).trans (no8 h1 h2 h3 h4 h5 h6 h7 h8)
theorem qjn {h:Hp} {Q:AV->Hp->Prop} {idom:List Int} {a:Nat} {b:Int} (hd:Dom idom a b):WC F8 74 [.s (jai jmz idom),vi a,vi b] h Q=Q (vb true) h :=
 jat (jbj rfl (by simp only [jax,ja1,jba,jcu,ja2,jbb,ja8,jbt,jbc,jbk,if_true]) (qgx jes hd))
def KP (idom:List Int) (p:Nat×Int) (k:Nat) (i:Nat):Prop:=(p.1=k/\p.2<(i:Int))∨(p.1≠k/\Dom idom p.1 k)
theorem j8m {h:Hp} (ok:Ok h) {idom:List Int} {a k i:Nat} {n:Int} (hk:KP idom (a,n) k i):WC F8 62 [.s (jai jmz idom),.agg [si a,si n],.agg [si k,si i]] h (fun v h'=>∃ d,jhl true h' d v=some (vb true)):=by
 refine jbe (no8 rfl rfl rfl rfl rfl rfl rfl rfl) qgw rfl ?_
 unfold j12
 obtain ⟨hA,eA,okA,nA,xA,gA⟩:=je1 ok [si a,si n] 109
 obtain ⟨hB,eB,okB,nB,xB,gB⟩:=je1 okA [si k,si i] 109
 have yA:=(gB _ (by omega)).trans xA
 rw [nA] at xB
 rcases hk with ⟨h1,h2⟩ | ⟨h1,h2⟩
 ·simp only at h1 h2
  have c1:((a:Int)=(k:Int))=True:=by simp;omega
  have c2:(n<(i:Int))=True:=eq_true h2
  simp (disch:=first|omega|rfl|apply_rules[jaa,jac,jad]) only [go_sem,eA,nA,eB,yA,xB,c1,c2]
  exact ⟨1,rfl⟩
 ·simp only at h1 h2
  have c1:((a:Int)=(k:Int))=False:=by simp;omega
  simp (disch:=first|omega|rfl|apply_rules[jaa,jac,jad]) only [go_sem,eA,nA,eB,yA,xB,c1]
  unfold jw6
  simp (disch:=first|omega|rfl|apply_rules[jaa,jac,jad]) only [go_sem,yA,xB,qjn h2]
  exact ⟨1,rfl⟩
theorem jw9 {h:Hp} {Q:AV->Hp->Prop} {idom:List Int} {a k i:Nat} {n:Int} (hk:KP idom (a,n) k i):WC F9 62 [.s (jai jmz idom),.agg [si a,si n],.agg [si k,si i]] h Q=Q (vb true) h :=
 jat (jbj rfl (by simp only [jax,ja1,jba,jcu,ja2,jbb,ja8,jbt,jbc,jbk,if_true]) (j8m jes hk))
def KT (idom:List Int) (T:List (Nat×Int)) (v k i:Nat):Prop:=∃ p,T[v]?=some p/\KP idom p k i
theorem j8n {idom:List Int} {T:List (Nat×Int)} {l:List Ms.Opd} {k i:Nat} (hl:l.length<=10000) (hp:∀ o∈l,o.kind=1->KT idom T o.value k i) {x0 x2 x3 x4 x5 x6 x7 x8 x9 x10 x11 x12 x13 x23 x24 x25 x26 x27 x28 x29 x30 x31 x32 x33:AV} {Q:Ex->St->Prop} :
 ∀ (d j:Nat) (_:j+d=l.length) {hi:Hp} (_:Ok hi) {x14 x18 x20:AV}
  (hQ:∀ hj x14 x18 x20,Ok hj->hi.next<=hj.next->(∀ n,n<hi.next->hj.get n=hi.get n)->Q (.exit 4) (.mk [x0,.s (jai jmz idom),x2,x3,x4,x5,x6,x7,x8,x9,x10,x11,x12,x13,x14,vi i,vi k,.s (jai jiy T),x18,.s (jai jbh l),x20,vi l.length,vi l.length,x23,x24,x25,x26,x27,x28,x29,x30,x31,x32,x33] hj)),
  W F9 jko.loop (.mk [x0,.s (jai jmz idom),x2,x3,x4,x5,x6,x7,x8,x9,x10,x11,x12,x13,x14,vi i,vi k,.s (jai jiy T),x18,.s (jai jbh l),x20,vi l.length,vi j,x23,x24,x25,x26,x27,x28,x29,x30,x31,x32,x33] hi) Q
 | 0,j,hd,hi,ok,x14,x18,x20,hQ=>by
  obtain rfl:j=l.length:=by omega
  rw [jan]
  unfold jko
  simp (disch:=first|omega|rfl|apply_rules[jaa,jac,jad]) only [go_sem,Int.lt_irrefl]
  exact hQ hi _ _ _ ok (Nat.le_refl _) (fun _ _=>rfl)
 | d+1,j,hd,hi,ok,x14,x18,x20,hQ=>by
  have hlt:(j:Int)<(l.length:Int):=by omega
  obtain ⟨o,hio⟩:∃ y,l[j]?=some y:=⟨_,List.getElem?_eq_getElem (by omega)⟩
  have ho:=hp o (List.mem_of_getElem? hio)
  have hix:=jaj (enc:=jbh) (size:=5) hio rfl
  have hs:(j:Int)+1=((j+1:Nat):Int):=by omega
  obtain ⟨hA,eA,okA,nA,xA,gA⟩:=jcq ok [.int .i64 0,.int .i64 0,.bool false,.int .i64 0,.int .i64 0] (jbh o) 48
  unfold jbh at xA eA
  rw [jan]
  unfold jko jw0
  by_cases e:o.kind=1
  ·have c1:((o.kind:Int)=1)=True:=by simp;omega
   obtain ⟨⟨pb,pn⟩,h1,h2⟩:=ho e
   have hxs:=jaj (enc:=jiy) (size:=2) h1 rfl
   simp (disch:=first|omega|rfl|apply_rules[jaa,jac,jad]) only [go_sem,jag,eq_true hlt,hix,jbh,eA,xA,c1,hxs,jiy,jw9 h2,hs]
   exact j8n hl hp d (j+1) (by omega) okA (fun hj x14 x18 x20 o n g=>hQ hj x14 x18 x20 o (by omega) (fun m hm=>(g m (by omega)).trans (gA m hm)))
  ·have c1:((o.kind:Int)=1)=False:=by simp;omega
   simp (disch:=first|omega|rfl|apply_rules[jaa,jac,jad]) only [go_sem,jag,eq_true hlt,hix,jbh,eA,xA,c1,hs]
   exact j8n hl hp d (j+1) (by omega) okA (fun hj x14 x18 x20 o n g=>hQ hj x14 x18 x20 o (by omega) (fun m hm=>(g m (by omega)).trans (gA m hm)))
theorem qdc {idom:List Int} {T:List (Nat×Int)} {l:List Ms.Ins} {k:Nat} (hl:l.length<=10000) (hp:∀ (i:Nat) (x:Ms.Ins),l[i]?=some x->x.ops.length<=6/\∀ o∈x.ops,o.kind=1->KT idom T o.value k i) {x0 x2 x3 x4 x5 x6 x7 x8 x9 x10 x11 x12 x13 x28 x29 x30 x31 x32 x33:AV} {Q:Ex->St->Prop} :
 ∀ (d j:Nat) (_:j+d=l.length) {hi:Hp} (_:Ok hi) {x14 x15 x18 x19 x20 x21 x22 x23 x25:AV}
  (hQ:∀ hj x14 x15 x18 x19 x20 x21 x22 x23 x25,Ok hj->hi.next<=hj.next->(∀ n,n<hi.next->hj.get n=hi.get n)->Q (.exit 2) (.mk [x0,.s (jai jmz idom),x2,x3,x4,x5,x6,x7,x8,x9,x10,x11,x12,x13,x14,x15,vi k,.s (jai jiy T),x18,x19,x20,x21,x22,x23,.s (jai jea l),x25,vi l.length,vi l.length,x28,x29,x30,x31,x32,x33] hj)),
  W F9 jkp.loop (.mk [x0,.s (jai jmz idom),x2,x3,x4,x5,x6,x7,x8,x9,x10,x11,x12,x13,x14,x15,vi k,.s (jai jiy T),x18,x19,x20,x21,x22,x23,.s (jai jea l),x25,vi l.length,vi j,x28,x29,x30,x31,x32,x33] hi) Q
 | 0,j,hd,hi,ok,x14,x15,x18,x19,x20,x21,x22,x23,x25,hQ=>by
  obtain rfl:j=l.length:=by omega
  rw [jan]
  unfold jkp
  simp (disch:=first|omega|rfl|apply_rules[jaa,jac,jad]) only [go_sem,Int.lt_irrefl]
  exact hQ hi _ _ _ _ _ _ _ _ _ ok (Nat.le_refl _) (fun _ _=>rfl)
 | d+1,j,hd,hi,ok,x14,x15,x18,x19,x20,x21,x22,x23,x25,hQ=>by
  have hlt:(j:Int)<(l.length:Int):=by omega
  obtain ⟨x,hio⟩:∃ y,l[j]?=some y:=⟨_,List.getElem?_eq_getElem (by omega)⟩
  obtain ⟨hx1,hx2⟩:=hp j x hio
  have hix:=jaj (enc:=jea) (size:=3) hio rfl
  have hs:(j:Int)+1=((j+1:Nat):Int):=by omega
  obtain ⟨hA,eA,okA,nA,xA,gA⟩:=jcq ok [.int .i64 0,.nilSlice,.nilSlice] (jea x) 46
  have l1:=jal (enc:=jbh) (l:=x.ops)
  unfold jea at xA eA
  rw [jan]
  unfold jkp jw1
  simp (disch:=first|omega|rfl|apply_rules[jaa,jac,jad]) only [go_sem,jag,eq_true hlt,hix,jea,eA,xA,l1]
  refine j8n (by omega) hx2 x.ops.length 0 (by omega) okA (fun hj x14 x18 x20 o n g=>?_)
  simp (disch:=first|omega|rfl|apply_rules[jaa,jac,jad]) only [go_sem,jag,hs]
  exact qdc hl hp d (j+1) (by omega) o (fun hk x14 x15 x18 x19 x20 x21 x22 x23 x25 o' n' g'=>hQ hk x14 x15 x18 x19 x20 x21 x22 x23 x25 o' (by omega) (fun m hm=>(g' m (by omega)).trans ((g m (by omega)).trans (gA m hm))))
theorem qdd {idom:List Int} {T:List (Nat×Int)} {l:List Nat} {b:Blk} {k bB:Nat} (hl:l.length<=10000) (hp:∀ v∈l,KT idom T v k b.instrs.length) {x0 x2 x9 x10 x11 x12 x13 x14 x15 x18 x19 x20 x21 x22 x23 x24 x25 x26 x27 x29 x30 x31 x32 x33:AV} {Q:Ex->St->Prop} :
 ∀ (d j:Nat) (_:j+d=l.length) {hi:Hp} (_:Ok hi) (_:hi.get bB=some (.arr [jai ja0 b.params,jai jea b.instrs,jai jdl b.edges] 36)) {x3 x4 x6:AV}
  (hQ:∀ x3 x4 x6,Q (.exit 8) (.mk [x0,.s (jai jmz idom),x2,x3,x4,.s (jai ja0 l),x6,vi l.length,vi l.length,x9,x10,x11,x12,x13,x14,x15,vi k,.s (jai jiy T),x18,x19,x20,x21,x22,x23,x24,x25,x26,x27,.s (.ptr bB 0),x29,x30,x31,x32,x33] hi)),
  W F9 jkq.loop (.mk [x0,.s (jai jmz idom),x2,x3,x4,.s (jai ja0 l),x6,vi l.length,vi j,x9,x10,x11,x12,x13,x14,x15,vi k,.s (jai jiy T),x18,x19,x20,x21,x22,x23,x24,x25,x26,x27,.s (.ptr bB 0),x29,x30,x31,x32,x33] hi) Q
 | 0,j,hd,hi,ok,xB,x3,x4,x6,hQ=>by
  obtain rfl:j=l.length:=by omega
  rw [jan]
  unfold jkq
  simp (disch:=first|omega|rfl|apply_rules[jaa,jac,jad]) only [go_sem,Int.lt_irrefl]
  exact hQ _ _ _
 | d+1,j,hd,hi,ok,xB,x3,x4,x6,hQ=>by
  have hlt:(j:Int)<(l.length:Int):=by omega
  obtain ⟨v,hio⟩:∃ y,l[j]?=some y:=⟨_,List.getElem?_eq_getElem (by omega)⟩
  obtain ⟨⟨pb,pn⟩,h1,h2⟩:=hp v (List.mem_of_getElem? hio)
  have hix:=jaj (enc:=ja0) (size:=1) hio rfl
  have hxs:=jaj (enc:=jiy) (size:=2) h1 rfl
  have hs:(j:Int)+1=((j+1:Nat):Int):=by omega
  have l1:=jal (enc:=jea) (l:=b.instrs)
  rw [jan]
  unfold jkq jw3 jw2
  simp (disch:=first|omega|rfl|apply_rules[jaa,jac,jad]) only [go_sem,jag,eq_true hlt,hix,ja0,hxs,jiy,xB,l1,jw9 h2,hs]
  exact qdd hl hp d (j+1) (by omega) ok xB hQ
theorem qde {idom:List Int} {T:List (Nat×Int)} {l:List Ms.Edg} {b:Blk} {k bB:Nat} (hl:l.length<=10000) (hp:∀ e∈l,e.args.length<=10000/\∀ v∈e.args,KT idom T v k b.instrs.length) {x0 x2 x14 x15 x18 x19 x20 x21 x22 x23 x24 x25 x26 x27 x29 x30 x31 x32 x33:AV} {Q:Ex->St->Prop} :
 ∀ (d j:Nat) (_:j+d=l.length) {hi:Hp} (_:Ok hi) (_:bB<hi.next) (_:hi.get bB=some (.arr [jai ja0 b.params,jai jea b.instrs,jai jdl b.edges] 36)) {x3 x4 x5 x6 x7 x8 x9 x11:AV}
  (hQ:∀ hj x3 x4 x5 x6 x7 x8 x9 x11,Ok hj->hi.next<=hj.next->(∀ n,n<hi.next->hj.get n=hi.get n)->Q (.exit 6) (.mk [x0,.s (jai jmz idom),x2,x3,x4,x5,x6,x7,x8,x9,.s (jai jdl l),x11,vi l.length,vi l.length,x14,x15,vi k,.s (jai jiy T),x18,x19,x20,x21,x22,x23,x24,x25,x26,x27,.s (.ptr bB 0),x29,x30,x31,x32,x33] hj)),
  W F9 jkr.loop (.mk [x0,.s (jai jmz idom),x2,x3,x4,x5,x6,x7,x8,x9,.s (jai jdl l),x11,vi l.length,vi j,x14,x15,vi k,.s (jai jiy T),x18,x19,x20,x21,x22,x23,x24,x25,x26,x27,.s (.ptr bB 0),x29,x30,x31,x32,x33] hi) Q
 | 0,j,hd,hi,ok,hb,xB,x3,x4,x5,x6,x7,x8,x9,x11,hQ=>by
  obtain rfl:j=l.length:=by omega
  rw [jan]
  unfold jkr
  simp (disch:=first|omega|rfl|apply_rules[jaa,jac,jad]) only [go_sem,Int.lt_irrefl]
  exact hQ hi _ _ _ _ _ _ _ _ ok (Nat.le_refl _) (fun _ _=>rfl)
 | d+1,j,hd,hi,ok,hb,xB,x3,x4,x5,x6,x7,x8,x9,x11,hQ=>by
  have hlt:(j:Int)<(l.length:Int):=by omega
  obtain ⟨e,hio⟩:∃ y,l[j]?=some y:=⟨_,List.getElem?_eq_getElem (by omega)⟩
  obtain ⟨he1,he2⟩:=hp e (List.mem_of_getElem? hio)
  have hix:=jaj (enc:=jdl) (size:=2) hio rfl
  have hs:(j:Int)+1=((j+1:Nat):Int):=by omega
  obtain ⟨hA,eA,okA,nA,xA,gA⟩:=jcq ok [.int .i64 0,.nilSlice] (jdl e) 51
  have yB:=(gA _ hb).trans xB
  have l1:=jal (enc:=ja0) (l:=e.args)
  unfold jdl at xA eA
  rw [jan]
  unfold jkr jw4
  simp (disch:=first|omega|rfl|apply_rules[jaa,jac,jad]) only [go_sem,jag,eq_true hlt,hix,jdl,eA,xA,l1]
  refine qdd he1 he2 e.args.length 0 (by omega) okA yB (fun x3 x4 x6=>?_)
  simp (disch:=first|omega|rfl|apply_rules[jaa,jac,jad]) only [go_sem,jag,hs]
  exact qde hl hp d (j+1) (by omega) okA (by omega) yB (fun hk x3 x4 x5 x6 x7 x8 x9 x11 o' n' g'=>hQ hk x3 x4 x5 x6 x7 x8 x9 x11 o' (by omega) (fun m hm=>(g' m (by omega)).trans (gA m hm)))
structure UsOk (idom:List Int) (f:Fc):Prop where
 nb:f.blocks.length<=10000
 sz:∀ b∈f.blocks,b.instrs.length<=10000/\b.edges.length<=10000
 us:∀ (k i:Nat) (b:Blk) (x:Ms.Ins),f.blocks[k]?=some b->b.instrs[i]?=some x->x.ops.length<=6/\∀ o∈x.ops,o.kind=1->KT idom (jep f) o.value k i
 ed:∀ (k:Nat) (b:Blk) (e:Ms.Edg),f.blocks[k]?=some b->e∈b.edges->e.args.length<=10000/\∀ v∈e.args,KT idom (jep f) v k b.instrs.length
theorem qdf {idom:List Int} {f:Fc} (u:UsOk idom f) {x0 x2 x33:AV} {Q:Ex->St->Prop} :
 ∀ (d j:Nat) (_:j+d=f.blocks.length) {hi:Hp} (_:Ok hi) {x3 x4 x5 x6 x7 x8 x9 x10 x11 x12 x13 x14 x15 x16 x18 x19 x20 x21 x22 x23 x24 x25 x26 x27 x28 x30:AV}
  (hQ:∀ hj x3 x4 x5 x6 x7 x8 x9 x10 x11 x12 x13 x14 x15 x16 x18 x19 x20 x21 x22 x23 x24 x25 x26 x27 x28 x30,Q (.exit 0) (.mk [x0,.s (jai jmz idom),x2,x3,x4,x5,x6,x7,x8,x9,x10,x11,x12,x13,x14,x15,x16,.s (jai jiy (jep f)),x18,x19,x20,x21,x22,x23,x24,x25,x26,x27,x28,.s (jai ja3 f.blocks),x30,vi f.blocks.length,vi f.blocks.length,x33] hj)),
  W F9 jks.loop (.mk [x0,.s (jai jmz idom),x2,x3,x4,x5,x6,x7,x8,x9,x10,x11,x12,x13,x14,x15,x16,.s (jai jiy (jep f)),x18,x19,x20,x21,x22,x23,x24,x25,x26,x27,x28,.s (jai ja3 f.blocks),x30,vi f.blocks.length,vi j,x33] hi) Q
 | 0,j,hd,hi,ok,x3,x4,x5,x6,x7,x8,x9,x10,x11,x12,x13,x14,x15,x16,x18,x19,x20,x21,x22,x23,x24,x25,x26,x27,x28,x30,hQ=>by
  obtain rfl:j=f.blocks.length:=by omega
  rw [jan]
  unfold jks
  simp (disch:=first|omega|rfl|apply_rules[jaa,jac,jad]) only [go_sem,Int.lt_irrefl]
  exact hQ hi ..
 | d+1,j,hd,hi,ok,x3,x4,x5,x6,x7,x8,x9,x10,x11,x12,x13,x14,x15,x16,x18,x19,x20,x21,x22,x23,x24,x25,x26,x27,x28,x30,hQ=>by
  have nb:=u.nb
  have hlt:(j:Int)<(f.blocks.length:Int):=by omega
  obtain ⟨b,hio⟩:∃ y,f.blocks[j]?=some y:=⟨_,List.getElem?_eq_getElem (by omega)⟩
  obtain ⟨s1,s2⟩:=u.sz b (List.mem_of_getElem? hio)
  have hix:=jaj (enc:=ja3) (size:=3) hio rfl
  have hs:(j:Int)+1=((j+1:Nat):Int):=by omega
  obtain ⟨hA,eA,okA,nA,xA,gA⟩:=jcq ok [.nilSlice,.nilSlice,.nilSlice] (ja3 b) 36
  have l1:=jal (enc:=jea) (l:=b.instrs)
  have l2:=jal (enc:=jdl) (l:=b.edges)
  unfold ja3 at xA eA
  rw [jan]
  unfold jks jw5
  simp (disch:=first|omega|rfl|apply_rules[jaa,jac,jad]) only [go_sem,jag,eq_true hlt,hix,ja3,eA,xA,l1]
  refine qdc s1 (fun i x hx=>u.us j i b x hio hx) b.instrs.length 0 (by omega) okA (fun hj x14 x15 x18 x19 x20 x21 x22 x23 x25 o n g=>?_)
  have yA:=(g _ (by omega)).trans xA
  simp (disch:=first|omega|rfl|apply_rules[jaa,jac,jad]) only [go_sem,yA,l2]
  refine qde s2 (fun e he=>u.ed j b e hio he) b.edges.length 0 (by omega) o (by omega) yA (fun hk x3 x4 x5 x6 x7 x8 x9 x11 o' n' g'=>?_)
  simp (disch:=first|omega|rfl|apply_rules[jaa,jac,jad]) only [go_sem,jag,hs]
  exact qdf u d (j+1) (by omega) o' hQ
theorem qjo {h:Hp} {Q:AV->Hp->Prop} {f:Fc} (hl:f.blocks.length<=10000) (hv:f.values.length<=10000) (hne:f.values≠[]) (hp:∀ b∈f.blocks,b.params.length<=10000/\b.instrs.length<=10000/\(∀ v∈b.params,v<f.values.length)/\∀ x∈b.instrs,x.ops.length<=6/\∀ o∈x.ops,o.value<f.values.length) :
 WC F9 61 [.agg [jai ja0 f.values,jai ja3 f.blocks]] h Q=Q (.s (jai jiy (jep f))) h :=
 jat ((jbm rfl).trans (jbj rfl (by simp only [jax,ja1,jba,jcu,ja2,jbb,ja8,jbt,jbc,jbk,if_true]) (qgy jes hl hv hne hp)))
theorem qjp {h:Hp} (ok:Ok h) {idom:List Int} {f:Fc} (u:UsOk idom f) (hv:f.values.length<=10000) (hne:f.values≠[]) (hp:∀ b∈f.blocks,b.params.length<=10000/\b.instrs.length<=10000/\(∀ v∈b.params,v<f.values.length)/\∀ x∈b.instrs,x.ops.length<=6/\∀ o∈x.ops,o.value<f.values.length) :
 WC F9 40 [.agg [jai ja0 f.values,jai ja3 f.blocks],.s (jai jmz idom)] h (fun v h'=>∃ d,jhl true h' d v=some (vb true)):=by
 refine jbe (no9 rfl rfl rfl rfl rfl rfl rfl rfl rfl) qgv rfl ?_
 unfold j11
 obtain ⟨hA,eA,okA,nA,xA,gA⟩:=je1 ok [jai ja0 f.values,jai ja3 f.blocks] 26
 have l2:=jal (enc:=ja3) (l:=f.blocks)
 simp (disch:=first|omega|rfl|apply_rules[jaa,jac,jad]) only [go_sem,eA,xA,qjo u.nb hv hne hp,l2]
 refine qdf u f.blocks.length 0 (by omega) okA (fun hj x3 x4 x5 x6 x7 x8 x9 x10 x11 x12 x13 x14 x15 x16 x18 x19 x20 x21 x22 x23 x24 x25 x26 x27 x28 x30=>?_)
 simp (disch:=first|omega|rfl|apply_rules[jaa,jac,jad]) only [go_sem]
 exact ⟨1,rfl⟩
theorem qqd:∀ (s:List Bool),s.length<=5->oG s
 | [],_=>o_
 | [false],_=>o_f
 | [true],_=>o_t
 | [false,false],_=>qr9
 | [false,true],_=>qr6
 | [true,false],_=>qr0
 | [true,true],_=>qr3
 | [false,false,false],_=>qqa
 | [false,false,true],_=>qp7
 | [false,true,false],_=>qps
 | [false,true,true],_=>qpp
 | [true,false,false],_=>qp1
 | [true,false,true],_=>qp4
 | [true,true,false],_=>qpv
 | [true,true,true],_=>qpy
 | [false,false,false,false],_=>qm9
 | [false,false,false,true],_=>qm0
 | [false,false,true,false],_=>qmf
 | [false,false,true,true],_=>qmr
 | [false,true,false,false],_=>qml
 | [false,true,false,true],_=>qmx
 | [false,true,true,false],_=>ql6
 | [false,true,true,true],_=>qmc
 | [true,false,false,false],_=>ql9
 | [true,false,false,true],_=>ql3
 | [true,false,true,false],_=>qnc
 | [true,false,true,true],_=>qmi
 | [true,true,false,false],_=>qm6
 | [true,true,false,true],_=>qmo
 | [true,true,true,false],_=>qmu
 | [true,true,true,true],_=>qm3
 | [false,false,false,false,false],_=>qib
 | [false,false,false,false,true],_=>qg8
 | [false,false,false,true,false],_=>qjk
 | [false,false,false,true,true],_=>qje
 | [false,false,true,false,false],_=>qi5
 | [false,false,true,false,true],_=>qhh
 | [false,false,true,true,false],_=>qht
 | [false,false,true,true,true],_=>qiw
 | [false,true,false,false,false],_=>qhw
 | [false,true,false,false,true],_=>qh5
 | [false,true,false,true,false],_=>qik
 | [false,true,false,true,true],_=>qi8
 | [false,true,true,false,false],_=>qit
 | [false,true,true,false,true],_=>qiz
 | [false,true,true,true,false],_=>qjb
 | [false,true,true,true,true],_=>qhb
 | [true,false,false,false,false],_=>qh8
 | [true,false,false,false,true],_=>qg5
 | [true,false,false,true,false],_=>qjh
 | [true,false,false,true,true],_=>qhe
 | [true,false,true,false,false],_=>qi2
 | [true,false,true,false,true],_=>qhq
 | [true,false,true,true,false],_=>qh2
 | [true,false,true,true,true],_=>qhn
 | [true,true,false,false,false],_=>qhk
 | [true,true,false,false,true],_=>qih
 | [true,true,false,true,false],_=>qiq
 | [true,true,false,true,true],_=>qhz
 | [true,true,true,false,false],_=>qg2
 | [true,true,true,false,true],_=>qie
 | [true,true,true,true,false],_=>qin
 | [true,true,true,true,true],_=>qgz
 | _::_::_::_::_::_::_,h=>absurd h (by simp)
theorem qqe:∀ (s:List Bool),s.length<=5->nG s
 | [],_=>n_
 | [false],_=>n_f
 | [true],_=>n_t
 | [false,false],_=>qsa
 | [false,true],_=>qr7
 | [true,false],_=>qr1
 | [true,true],_=>qr4
 | [false,false,false],_=>qqb
 | [false,false,true],_=>qp8
 | [false,true,false],_=>qpt
 | [false,true,true],_=>qpq
 | [true,false,false],_=>qp2
 | [true,false,true],_=>qp5
 | [true,true,false],_=>qpw
 | [true,true,true],_=>qpz
 | [false,false,false,false],_=>qna
 | [false,false,false,true],_=>qm1
 | [false,false,true,false],_=>qmg
 | [false,false,true,true],_=>qms
 | [false,true,false,false],_=>qmm
 | [false,true,false,true],_=>qmy
 | [false,true,true,false],_=>ql7
 | [false,true,true,true],_=>qmd
 | [true,false,false,false],_=>qma
 | [true,false,false,true],_=>ql4
 | [true,false,true,false],_=>qnd
 | [true,false,true,true],_=>qmj
 | [true,true,false,false],_=>qm7
 | [true,true,false,true],_=>qmp
 | [true,true,true,false],_=>qmv
 | [true,true,true,true],_=>qm4
 | [false,false,false,false,false],_=>qic
 | [false,false,false,false,true],_=>qg9
 | [false,false,false,true,false],_=>qjl
 | [false,false,false,true,true],_=>qjf
 | [false,false,true,false,false],_=>qi6
 | [false,false,true,false,true],_=>qhi
 | [false,false,true,true,false],_=>qhu
 | [false,false,true,true,true],_=>qix
 | [false,true,false,false,false],_=>qhx
 | [false,true,false,false,true],_=>qh6
 | [false,true,false,true,false],_=>qil
 | [false,true,false,true,true],_=>qi9
 | [false,true,true,false,false],_=>qiu
 | [false,true,true,false,true],_=>qi0
 | [false,true,true,true,false],_=>qjc
 | [false,true,true,true,true],_=>qhc
 | [true,false,false,false,false],_=>qh9
 | [true,false,false,false,true],_=>qg6
 | [true,false,false,true,false],_=>qji
 | [true,false,false,true,true],_=>qhf
 | [true,false,true,false,false],_=>qi3
 | [true,false,true,false,true],_=>qhr
 | [true,false,true,true,false],_=>qh3
 | [true,false,true,true,true],_=>qho
 | [true,true,false,false,false],_=>qhl
 | [true,true,false,false,true],_=>qii
 | [true,true,false,true,false],_=>qir
 | [true,true,false,true,true],_=>qh0
 | [true,true,true,false,false],_=>qg3
 | [true,true,true,false,true],_=>qif
 | [true,true,true,true,false],_=>qio
 | [true,true,true,true,true],_=>qg0
 | _::_::_::_::_::_::_,h=>absurd h (by simp)
theorem qqf:∀ (s:List Bool),s.length<=5->iG s
 | [],_=>i_
 | [false],_=>i_f
 | [true],_=>i_t
 | [false,false],_=>qsb
 | [false,true],_=>qr8
 | [true,false],_=>qr2
 | [true,true],_=>qr5
 | [false,false,false],_=>qqc
 | [false,false,true],_=>qp9
 | [false,true,false],_=>qpu
 | [false,true,true],_=>qpr
 | [true,false,false],_=>qp3
 | [true,false,true],_=>qp6
 | [true,true,false],_=>qpx
 | [true,true,true],_=>qp0
 | [false,false,false,false],_=>qnb
 | [false,false,false,true],_=>qm2
 | [false,false,true,false],_=>qmh
 | [false,false,true,true],_=>qmt
 | [false,true,false,false],_=>qmn
 | [false,true,false,true],_=>qmz
 | [false,true,true,false],_=>ql8
 | [false,true,true,true],_=>qme
 | [true,false,false,false],_=>qmb
 | [true,false,false,true],_=>ql5
 | [true,false,true,false],_=>qne
 | [true,false,true,true],_=>qmk
 | [true,true,false,false],_=>qm8
 | [true,true,false,true],_=>qmq
 | [true,true,true,false],_=>qmw
 | [true,true,true,true],_=>qm5
 | [false,false,false,false,false],_=>qid
 | [false,false,false,false,true],_=>qha
 | [false,false,false,true,false],_=>qjm
 | [false,false,false,true,true],_=>qjg
 | [false,false,true,false,false],_=>qi7
 | [false,false,true,false,true],_=>qhj
 | [false,false,true,true,false],_=>qhv
 | [false,false,true,true,true],_=>qiy
 | [false,true,false,false,false],_=>qhy
 | [false,true,false,false,true],_=>qh7
 | [false,true,false,true,false],_=>qim
 | [false,true,false,true,true],_=>qja
 | [false,true,true,false,false],_=>qiv
 | [false,true,true,false,true],_=>qi1
 | [false,true,true,true,false],_=>qjd
 | [false,true,true,true,true],_=>qhd
 | [true,false,false,false,false],_=>qia
 | [true,false,false,false,true],_=>qg7
 | [true,false,false,true,false],_=>qjj
 | [true,false,false,true,true],_=>qhg
 | [true,false,true,false,false],_=>qi4
 | [true,false,true,false,true],_=>qhs
 | [true,false,true,true,false],_=>qh4
 | [true,false,true,true,true],_=>qhp
 | [true,true,false,false,false],_=>qhm
 | [true,true,false,false,true],_=>qij
 | [true,true,false,true,false],_=>qis
 | [true,true,false,true,true],_=>qh1
 | [true,true,true,false,false],_=>qg4
 | [true,true,true,false,true],_=>qig
 | [true,true,true,true,false],_=>qip
 | [true,true,true,true,true],_=>qg1
 | _::_::_::_::_::_::_,h=>absurd h (by simp)
theorem jzs {α β:Type} (g:α->β):∀ (l:List α),(l.map (fun v=>(v,g v))).map (·.1)=l
 | []=>rfl
 | a::l=>congrArg (a::·) (jzs g l)
theorem qa3 (b i:Nat) (ops:List Ms.Opd):(evO b i ops).map (·.1)=dfO ops:=jzs _ _
theorem j13 (b:Nat):∀ (l:List Ms.Ins) (i:Nat),(evI b i l).map (·.1)=(l.map jc7).flatten
 | [],i=>rfl
 | x::l,i=>by
  unfold evI
  rw [List.map_append,qa3,j13 b l]
  rfl
theorem ju1:∀ (l:List Blk) (k:Nat),(evL k l).map (·.1)=jc1 l
 | [],k=>rfl
 | b::l,k=>by
  unfold evL evB evP
  rw [List.map_append,List.map_append,j13,ju1 l,jzs]
  simp [jc1,jmw]
theorem j8o {b v:Nat} {y:Ms.Ins} (hv:v∈jc7 y):∀ {l:List Ms.Ins} {i j:Nat},l[i]?=some y->(v,(b,((j+i:Nat):Int)))∈evI b j l
 | [],i,j,h=>by simp at h
 | x::l,0,j,h=>by
  simp only [List.getElem?_cons_zero,Option.some.injEq] at h
  subst h
  unfold evI
  exact List.mem_append_left _ (List.mem_map.2 ⟨v,hv,rfl⟩)
 | x::l,i+1,j,h=>by
  simp only [List.getElem?_cons_succ] at h
  unfold evI
  have:=j8o (b:=b) hv (j:=j+1) h
  rw [show j+1+i=j+(i+1) by omega] at this
  exact List.mem_append_right _ this
theorem j8p {v b:Nat} {n:Int}:∀ {l:List Blk} {k:Nat} {i:Nat},b=k+i->jzq l v i n->(v,(b,n))∈evL k l
 | [],k,i,e,h=>by
  obtain ⟨x,h1,_⟩:=h
  simp at h1
 | x::l,k,0,e,h=>by
  obtain ⟨y,h1,h2⟩:=h
  simp only [List.getElem?_cons_zero,Option.some.injEq] at h1
  subst h1
  rw [Nat.add_zero] at e
  subst e
  unfold evL evB
  refine List.mem_append_left _ ?_
  rcases h2 with ⟨rfl,h2⟩ | ⟨i,y,rfl,h2,h3⟩
  ·exact List.mem_append_left _ (List.mem_map.2 ⟨v,h2,rfl⟩)
  ·have:=j8o (b:=b) h3 (j:=0) h2
   rw [Nat.zero_add] at this
   exact List.mem_append_right _ this
 | x::l,k,i+1,e,h=>by
  unfold evL
  refine List.mem_append_right _ (j8p (i:=i) (by omega) ?_)
  obtain ⟨y,h1,h2⟩:=h
  exact ⟨y,by simpa using h1,h2⟩
theorem j8q {v:Nat}:∀ (l:List (Nat×(Nat×Int))) (T:List (Nat×Int)),v∉l.map (·.1)->(spF T l)[v]?=T[v]?
 | [],T,_=>rfl
 | e::l,T,h=>by
  simp only [List.map_cons,List.mem_cons,not_or] at h
  show (spF (T.set e.1 e.2) l)[v]?=_
  rw [j8q l _ h.2,List.getElem?_set_ne (fun x=>h.1 x.symm)]
theorem j8r {v:Nat} {p:Nat×Int}:∀ (l:List (Nat×(Nat×Int))) (T:List (Nat×Int)),(l.map (·.1)).Nodup->v<T.length->(v,p)∈l->(spF T l)[v]?=some p
 | [],T,_,_,h=>by cases h
 | e::l,T,hd,hv,h=>by
  rw [List.map_cons,List.nodup_cons] at hd
  show (spF (T.set e.1 e.2) l)[v]?=_
  rcases List.mem_cons.1 h with rfl | h
  ·rw [j8q l _ hd.1,List.getElem?_set_self hv]
  ·exact j8r l _ hd.2 (by rw [List.length_set];exact hv) h
theorem qa4 {f:Fc} (hm:(jc1 f.blocks).Perm (List.range f.values.length)) {v b:Nat} {n:Int} (h:jzq f.blocks v b n):(jep f)[v]?=some (b,n):=by
 have hmem:=j8p (k:=0) (i:=b) (Nat.zero_add b).symm h
 have hk:v∈jc1 f.blocks:=by rw [←ju1 f.blocks 0];exact List.mem_map.2 ⟨_,hmem,rfl⟩
 have hv:v<f.values.length:=List.mem_range.1 (hm.mem_iff.1 hk)
 unfold jep
 exact j8r _ _ (by rw [ju1];exact hm.nodup_iff.2 List.nodup_range) (by rw [List.length_replicate];exact hv) hmem
theorem juv.kt {f:Fc} (hm:(jc1 f.blocks).Perm (List.range f.values.length)) {idom:List Int} {v k i:Nat} (h:juv idom f.blocks v k i):KT idom (jep f) v k i:=by
 obtain ⟨b,n,h1,h2⟩:=h
 exact ⟨(b,n),qa4 hm h1,h2⟩
def gPs (l:List Blk) (k:Nat):SV:=jai ja0 (l.getD k jhe).params
def gIs (l:List Blk) (k:Nat):SV:=jai jea (l.getD k jhe).instrs
def gAs (l:List Blk) (k j:Nat):SV:=jai ja0 ((l.getD k jhe).edges.getD j ⟨0,[]⟩).args
theorem j8s (a:Nat->SV):∀ (r p:List Ms.Edg),(∀ j,a j=jai ja0 ((p++r).getD j ⟨0,[]⟩).args)->qob a p.length (r.map (·.block))=r.map jdl
 | [],p,h=>rfl
 | e::r,p,h=>by
  show [si e.block,a p.length]::qob a (p.length+1) (r.map (·.block))=jdl e::r.map jdl
  have h1:a p.length=jai ja0 e.args:=by
   rw [h,List.getD_eq_getElem?_getD,List.getElem?_append_right (Nat.le_refl _)];simp
  have h2:=j8s a r (p++[e]) (fun j=>by rw [h];simp)
  rw [List.length_append] at h2
  rw [h1]
  exact congrArg _ h2
theorem qjq (a:Nat->SV) (l:List Ms.Edg) (h:∀ j,a j=jai ja0 (l.getD j ⟨0,[]⟩).args):qoc a (l.map (·.block))=jai jdl l:=by
 cases l with
 | nil=>rfl
 | cons e r =>
  have:=j8s a (e::r) [] (by simpa using h)
  exact congrArg SV.lst this
theorem j14 (l:List Blk):∀ (r p:List Blk),p++r=l->j79 (gPs l) (gIs l) (gAs l) p.length (grL r)=r.map ja3
 | [],p,h=>rfl
 | b::r,p,h=>by
  have hb:l.getD p.length jhe=b:=by rw [←h,List.getD_eq_getElem?_getD,List.getElem?_append_right (Nat.le_refl _)];simp
  show [gPs l p.length,gIs l p.length,qoc (gAs l p.length) (jwz b)]::j79 (gPs l) (gIs l) (gAs l) (p.length+1) (grL r)=ja3 b::r.map ja3
  have h1:qoc (gAs l p.length) (jwz b)=jai jdl b.edges:=qjq _ _ (fun j=>by unfold gAs;rw [hb])
  have h2:=j14 l r (p++[b]) (by rw [←h];simp)
  rw [List.length_append] at h2
  rw [h1]
  unfold gPs gIs
  rw [hb]
  exact congrArg _ h2
theorem jqk {f:Fc} (hne:f.blocks≠[]):[jai ja0 f.values,jai ja3 f.blocks]=qod (grL f.blocks) (jai ja0 f.values) (gPs f.blocks) (gIs f.blocks) (gAs f.blocks):=by
 have h:=j14 f.blocks f.blocks [] rfl
 unfold qod
 rw [show j79 (gPs f.blocks) (gIs f.blocks) (gAs f.blocks) 0 (grL f.blocks)=f.blocks.map ja3 from h]
 cases e:f.blocks with
 | nil=>exact absurd e hne
 | cons b r=>rfl
section
variable {f:Fc} {s:List Bool} {h:Hp} {Q:AV->Hp->Prop}
theorem qa5 (hs:s.length<=5) (hg:grL f.blocks=gS s) (hne:f.blocks≠[]):jd9 F8 38 [.agg [jai ja0 f.values,jai ja3 f.blocks]] h=some (.s (jai ja0 (j10 s 0)),h) :=
 jbj rfl (by simp only [jax,ja1,jba,jcu,ja2,jbb,ja8,jbt,jbc,jbk,if_true]) (by rw [jqk hne,hg];exact jic (qqd s hs _ _ _ _))
theorem qjr (hs:s.length<=5) (hg:grL f.blocks=gS s) (hne:f.blocks≠[]):jd9 F8 39 [.agg [jai ja0 f.values,jai ja3 f.blocks]] h=some (.s (jai jgi (jg1 (gS s))),h) :=
 jbj rfl (by simp only [jax,ja1,jba,jcu,ja2,jbb,ja8,jbt,jbc,jbk,if_true]) (by rw [jqk hne,hg];exact jic (qqe s hs _ _ _ _))
theorem qa6 (hs:s.length<=5) (hg:grL f.blocks=gS s) (hne:f.blocks≠[]):jd9 F8 41 [.agg [jai ja0 f.values,jai ja3 f.blocks],.s (jai ja0 (j10 s 0))] h=some (.s (jai jmz (jib s)),h) :=
 jbj rfl (by simp only [jax,ja1,jba,jcu,ja2,jbb,ja8,jbt,jbc,jbk,if_true]) (by rw [jqk hne,hg];exact jic (qqf s hs _ _ _ _))
end
def shp:Nat->List (List Bool)
 | 0=>[[]]
 | n+1=>[]::((shp n).map (false::·)++(shp n).map (true::·))
theorem j8t:∀ (n:Nat) (s:List Bool),s.length<=n->s∈shp n
 | 0,s,h=>by
  have:=List.eq_nil_of_length_eq_zero (Nat.le_zero.1 h)
  subst this;exact List.mem_singleton.2 rfl
 | n+1,[],h=>by unfold shp;simp
 | n+1,b::s,h=>by
  have:=j8t n s (by simpa using h)
  unfold shp
  refine List.mem_cons_of_mem _ (List.mem_append.2 ?_)
  cases b
  ·exact .inl (List.mem_map.2 ⟨s,this,rfl⟩)
  ·exact .inr (List.mem_map.2 ⟨s,this,rfl⟩)
theorem j8u {P:List Bool->Bool} (h:(shp 5).all P=true) {s:List Bool} (hs:s.length<=5):P s=true:=List.all_eq_true.1 h s (j8t 5 s hs)
def qq8 (g:List (List Nat)):Bool:=g.all (fun es=>es.length<=1||es.all (fun t=>((jg1 g).getD t [0,0]).length<=1))
theorem qa7:(shp 5).all (fun s=>qq8 (gS s))=true:=by kernel_rfl
theorem ju2:∀ (s:List Bool) (c:Nat),(j10 s c).length=1+3*s.length
 | [],c=>rfl
 | false::s,c=>by simp [j10,ju2 s];omega
 | true::s,c=>by simp [j10,ju2 s];omega
structure FlOk (m:Nat×Nat) (f:Fc) (s:List Bool):Prop where
 k:FcOk m f
 on:jix f=0
 hs:s.length<=5
 hg:grL f.blocks=gS s
 hv:f.values≠[]
 us:UsOk (jib s) f
theorem FlOk.hne {m:Nat×Nat} {f:Fc} {s:List Bool} (o:FlOk m f s):f.blocks≠[]:=List.length_pos_iff.1 (by have:=o.k.nb;omega)
theorem FlOk.len {m:Nat×Nat} {f:Fc} {s:List Bool} (o:FlOk m f s):f.blocks.length=1+3*s.length:=by rw [←jdx,o.hg,jrz]
theorem qjs {m:Nat×Nat} (m1:2<=m.1/\m.1<=10) (m2:2<=m.2/\m.2<=10) (l:List Pc):∃ s,FlOk m (jei m l) s/\(jc1 (jei m l).blocks).Perm (List.range (jei m l).values.length) /\
 (∀ (k i:Nat) (b:Blk) (x:Ms.Ins) (o:Ms.Opd),(jei m l).blocks[k]?=some b->b.instrs[i]?=some x->o∈x.ops->o.kind=1->juv (jib s) (jei m l).blocks o.value k i):=by
 obtain ⟨k,kp,_⟩:=j1b m1 m2 l
 obtain ⟨s,h1,h2,h3,h4⟩:=j3i m1 m2 l
 have hv:(jei m l).values≠[]:=by
  obtain ⟨b,g,c,n,_⟩:=((jkm m1 m2).pieces (l.take 24)).bd.lay ⟨0,0,1,0,0,0,3⟩
  obtain ⟨_,_,_,_,_,_,_,_,cs,e1,e2,_⟩:=qfv ((jkm m1 m2).pieces (l.take 24)).v ⟨0,0,1,0,0,0,3⟩
  have:(jei m l).values=(jcd ((l.take 24).foldl jbl (jbo m)) ⟨0,0,1,0,0,0,3⟩).values:=rfl
  rw [this,e2]
  rcases e1 with rfl | rfl<;>simp
 refine ⟨s,⟨k,qay kp,h1,h2,hv,⟨by have:=k.nb;omega,fun b hb=>by have:=k.blk b hb;omega,fun a i b x hb hx=>⟨(k.ins b (List.mem_of_getElem? hb) x (List.mem_of_getElem? hx)).nops,fun o ho hk=>juv.kt kp (h3 a i b x o hb hx ho hk)⟩,fun a b e hb he=>⟨?_,fun v hv=>juv.kt kp (h4 a b e v hb he hv)⟩⟩⟩,kp,h3⟩
 obtain ⟨_,_,t,h5,h6,_⟩:=k.edg b (List.mem_of_getElem? hb) e he
 have h7:=(k.blk t (List.mem_of_getElem? h5)).1
 have:=congrArg List.length h6
 simp only [List.length_map] at this
 omega
def S10 (f:FuncId):Bool:=Nat.beq f 40
noncomputable def F10:Fns:=PX S10 F9
theorem qqg {A:Nat->Int}:Env Try.prog A tys F10:=ji0 qsd
theorem qqh {f:FuncId} (h1:S1 f=false) (h2:Nat.beq f jgz.f=false) (h3:S3 f=false) (h4:S4 f=false) (h5:S5 f=false) (h6:S6 f=false) (h7:S7 f=false) (h8:S8 f=false) (h9:S9 f=false) (h10:S10 f=false) {vs:List AV} {h:Hp}:jd9 F10 f vs h=none:=(jbm h10).trans (no9 h1 h2 h3 h4 h5 h6 h7 h8 h9)
section
variable {h:Hp} {m:Nat×Nat} {f:Fc} {s:List Bool} {Q:AV->Hp->Prop}
theorem qa8 {g:FuncId} (h9:S9 g=false) (h10:S10 g=false) {vs:List AV}:jd9 F10 g vs h=jd9 F8 g vs h:=(jbm h10).trans (jbm h9)
theorem qa9 (o:FlOk m f s) (m1:2<=m.1/\m.1<=10) (m2:2<=m.2/\m.2<=10):WC F10 19 [.agg [jai ja0 f.values,jai ja3 f.blocks],.agg [si m.1,si m.2]] h Q=Q (vi 0) h :=
 jat ((qa8 rfl rfl).trans ((jbm rfl).trans (by rw [qc4 o.k m1 m2,o.on];rfl)))
theorem jr1 (o:FlOk m f s):WC F10 38 [.agg [jai ja0 f.values,jai ja3 f.blocks]] h Q=Q (.s (jai ja0 (j10 s 0))) h:=jat ((qa8 rfl rfl).trans (qa5 o.hs o.hg o.hne))
theorem j8v (o:FlOk m f s):WC F10 39 [.agg [jai ja0 f.values,jai ja3 f.blocks]] h Q=Q (.s (jai jgi (jg1 (gS s)))) h:=jat ((qa8 rfl rfl).trans (qjr o.hs o.hg o.hne))
theorem j3j (o:FlOk m f s):WC F10 41 [.agg [jai ja0 f.values,jai ja3 f.blocks],.s (jai ja0 (j10 s 0))] h Q=Q (.s (jai jmz (jib s))) h:=jat ((qa8 rfl rfl).trans (qa6 o.hs o.hg o.hne))
theorem qba (o:FlOk m f s):WC F10 40 [.agg [jai ja0 f.values,jai ja3 f.blocks],.s (jai jmz (jib s))] h Q=Q (vb true) h :=
 jat (jbj rfl (by simp only [jax,ja1,jba,jcu,ja2,jbb,ja8,jbt,jbc,jbk,if_true]) (qjp jes o.us (by have:=o.k.nv;omega) o.hv (j76 o.k)))
end
theorem FlOk.pred {m:Nat×Nat} {f:Fc} {s:List Bool} (o:FlOk m f s) {b:Blk} (hb:b∈f.blocks) (h:1<b.edges.length) {e:Ms.Edg} (he:e∈b.edges):∃ pl,(jg1 (gS s))[e.block]?=some pl/\pl.length<=1:=by
 have h1:=j8u qa7 o.hs
 unfold qq8 at h1
 rw [List.all_eq_true] at h1
 have h2:=h1 (jwz b) (by rw [←o.hg];exact List.mem_map.2 ⟨b,hb,rfl⟩)
 simp only [Bool.or_eq_true,decide_eq_true_eq,List.all_eq_true] at h2
 have h3:=h2.resolve_left (by unfold jwz;rw [List.length_map];omega) e.block (List.mem_map.2 ⟨e,he,rfl⟩)
 rw [List.getD_eq_getElem?_getD] at h3
 cases hq:(jg1 (gS s))[e.block]? with
 | none=>rw [hq] at h3;simp at h3
 | some pl=>rw [hq] at h3;exact ⟨pl,rfl,h3⟩
theorem j8w {m:Nat×Nat} {f:Fc} {s:List Bool} (o:FlOk m f s) {b:Blk} (hb:b∈f.blocks) {bB:Nat} {x0 x1 x2 x3 x12 x13 x14 x15 x16 x17 x18 x19 x20:AV} {Q:Ex->St->Prop} :
 ∀ (d j:Nat) (_:j+d=b.edges.length) {hi:Hp} (_:Ok hi) (_:bB<hi.next) (_:hi.get bB=some (.arr [jai ja0 b.params,jai jea b.instrs,jai jdl b.edges] 36)) {x4 x5 x8:AV}
  (hQ:∀ hj x4 x5 x8,Ok hj->hi.next<=hj.next->(∀ n,n<hi.next->hj.get n=hi.get n)->Q (.exit 2) (.mk [x0,x1,x2,x3,x4,x5,.s (jai jgi (jg1 (gS s))),.s (jai jdl b.edges),x8,vi b.edges.length,vi b.edges.length,.s (.ptr bB 0),x12,x13,x14,x15,x16,x17,x18,x19,x20] hj)),
  W F10 jek.loop (.mk [x0,x1,x2,x3,x4,x5,.s (jai jgi (jg1 (gS s))),.s (jai jdl b.edges),x8,vi b.edges.length,vi j,.s (.ptr bB 0),x12,x13,x14,x15,x16,x17,x18,x19,x20] hi) Q
 | 0,j,hd,hi,ok,hB,xB,x4,x5,x8,hQ=>by
  obtain rfl:j=b.edges.length:=by omega
  rw [jan]
  unfold jek
  simp (disch:=first|omega|rfl|apply_rules[jaa,jac,jad]) only [go_sem,Int.lt_irrefl]
  exact hQ hi _ _ _ ok (Nat.le_refl _) (fun _ _=>rfl)
 | d+1,j,hd,hi,ok,hB,xB,x4,x5,x8,hQ=>by
  have hlt:(j:Int)<(b.edges.length:Int):=by omega
  have hne:=(o.k.blk b hb).2.2
  obtain ⟨e,hio⟩:∃ y,b.edges[j]?=some y:=⟨_,List.getElem?_eq_getElem (by omega)⟩
  have hix:=jaj (enc:=jdl) (size:=2) hio rfl
  have hs:(j:Int)+1=((j+1:Nat):Int):=by omega
  obtain ⟨hA,eA,okA,nA,xA,gA⟩:=jcq ok [.int .i64 0,.nilSlice] (jdl e) 51
  have yB:=(gA _ hB).trans xB
  have l2:=jal (enc:=jdl) (l:=b.edges)
  unfold jdl at xA eA
  rw [jan]
  unfold jek jkt
  by_cases h1:1<b.edges.length
  ·have c1:(1<(b.edges.length:Int))=True:=by simp;omega
   obtain ⟨pl,h2,h3⟩:=o.pred hb h1 (List.mem_of_getElem? hio)
   have hxp:=jaj (enc:=jgi) (size:=1) h2 rfl
   have l3:=jal (enc:=ja0) (l:=pl)
   have c2:(1<(pl.length:Int))=False:=by simp;omega
   simp (disch:=first|omega|rfl|apply_rules[jaa,jac,jad]) only [go_sem,jag,eq_true hlt,hix,jdl,eA,xA,yB,l2,c1,hxp,jgi,l3,c2,hs]
   exact j8w o hb d (j+1) (by omega) okA (by omega) yB (fun hj x4 x5 x8 ok' n g=>hQ hj x4 x5 x8 ok' (by omega) (fun q hq=>(g q (by omega)).trans (gA q hq)))
  ·have c1:(1<(b.edges.length:Int))=False:=by simp;omega
   simp (disch:=first|omega|rfl|apply_rules[jaa,jac,jad]) only [go_sem,jag,eq_true hlt,hix,jdl,eA,xA,yB,l2,c1,hs]
   exact j8w o hb d (j+1) (by omega) okA (by omega) yB (fun hj x4 x5 x8 ok' n g=>hQ hj x4 x5 x8 ok' (by omega) (fun q hq=>(g q (by omega)).trans (gA q hq)))
theorem qdg {m:Nat×Nat} {f:Fc} {s:List Bool} (o:FlOk m f s) {bF:Nat} {x0 x1 x2 x3 x16 x17 x18 x19:AV} {Q:Ex->St->Prop} :
 ∀ (d j:Nat) (_:j+d=f.blocks.length) {hi:Hp} (_:Ok hi) (_:bF<hi.next) {x4 x5 x7 x8 x9 x10 x11 x13:AV}
  (hQ:∀ hj x4 x5 x7 x8 x9 x10 x11 x13,Ok hj->hi.next<=hj.next->hj.get bF=hi.get bF->Q (.exit 0) (.mk [x0,x1,x2,x3,x4,x5,.s (jai jgi (jg1 (gS s))),x7,x8,x9,x10,x11,.s (jai ja3 f.blocks),x13,vi f.blocks.length,vi f.blocks.length,x16,x17,x18,x19,.s (.ptr bF 0)] hj)),
  W F10 jel.loop (.mk [x0,x1,x2,x3,x4,x5,.s (jai jgi (jg1 (gS s))),x7,x8,x9,x10,x11,.s (jai ja3 f.blocks),x13,vi f.blocks.length,vi j,x16,x17,x18,x19,.s (.ptr bF 0)] hi) Q
 | 0,j,hd,hi,ok,hB,x4,x5,x7,x8,x9,x10,x11,x13,hQ=>by
  obtain rfl:j=f.blocks.length:=by omega
  rw [jan]
  unfold jel
  simp (disch:=first|omega|rfl|apply_rules[jaa,jac,jad]) only [go_sem,Int.lt_irrefl]
  exact hQ hi _ _ _ _ _ _ _ _ ok (Nat.le_refl _) rfl
 | d+1,j,hd,hi,ok,hB,x4,x5,x7,x8,x9,x10,x11,x13,hQ=>by
  have nb:=o.k.nb
  have hlt:(j:Int)<(f.blocks.length:Int):=by omega
  obtain ⟨b,hio⟩:∃ y,f.blocks[j]?=some y:=⟨_,List.getElem?_eq_getElem (by omega)⟩
  have hbm:=List.mem_of_getElem? hio
  have hix:=jaj (enc:=ja3) (size:=3) hio rfl
  have hs:(j:Int)+1=((j+1:Nat):Int):=by omega
  obtain ⟨hA,eA,okA,nA,xA,gA⟩:=jcq ok [.nilSlice,.nilSlice,.nilSlice] (ja3 b) 36
  have l2:=jal (enc:=jdl) (l:=b.edges)
  unfold ja3 at xA eA
  rw [jan]
  unfold jel jku
  simp (disch:=first|omega|rfl|apply_rules[jaa,jac,jad]) only [go_sem,jag,eq_true hlt,hix,ja3,eA,xA,l2]
  refine j8w o hbm b.edges.length 0 (by omega) okA (by omega) xA (fun hj x4 x5 x8 ok' n g=>?_)
  simp (disch:=first|omega|rfl|apply_rules[jaa,jac,jad]) only [go_sem,jag,hs]
  exact qdg o d (j+1) (by omega) ok' (by omega) (fun hk x4 x5 x7 x8 x9 x10 x11 x13 o' n' g'=>hQ hk x4 x5 x7 x8 x9 x10 x11 x13 o' (by omega) (g'.trans ((g _ (by omega)).trans (gA _ hB))))
theorem qjt {h:Hp} (ok:Ok h) {m:Nat×Nat} {f:Fc} {s:List Bool} (o:FlOk m f s) (m1:2<=m.1/\m.1<=10) (m2:2<=m.2/\m.2<=10):WC F10 22 [.agg [jai ja0 f.values,jai ja3 f.blocks],.agg [si m.1,si m.2]] h (fun v h'=>∃ d,jhl true h' d v=some (vi 0)):=by
 refine jbe (qqh rfl rfl rfl rfl rfl rfl rfl rfl rfl rfl) j8i rfl ?_
 unfold ju0
 obtain ⟨hA,eA,okA,nA,xA,gA⟩:=je1 ok [jai ja0 f.values,jai ja3 f.blocks] 26
 obtain ⟨hB,eB,okB,nB,xB,gB⟩:=je1 okA [si m.1,si m.2] 30
 have yA:=(gB _ (by omega)).trans xA
 rw [nA] at xB
 have l2:=jal (enc:=ja3) (l:=f.blocks)
 have l3:=jal (enc:=ja0) (l:=j10 s 0)
 have c1:(((j10 s 0).length:Int)<(f.blocks.length:Int))=False:=eq_false (by rw [ju2,o.len];omega)
 have hh:(hB.next<=h.next/\h.next<hB.next)=False:=eq_false (by omega)
 simp (disch:=first|omega|rfl|apply_rules[jaa,jac,jad]) only [go_sem,eA,eB,nA,yA,xB,qa9 o m1 m2]
 unfold jqi jqg
 simp (disch:=first|omega|rfl|apply_rules[jaa,jac,jad]) only [go_sem,yA,xB,jr1 o,l3,l2,c1,hh]
 unfold jqh
 simp (disch:=first|omega|rfl|apply_rules[jaa,jac,jad]) only [go_sem,yA,j8v o,l2]
 refine qdg o f.blocks.length 0 (by omega) okB (by omega) (fun hj x4 x5 x7 x8 x9 x10 x11 x13 o' n g=>?_)
 have zA:=g.trans yA
 have hh:(hj.next<=h.next/\h.next<hj.next)=False:=eq_false (by omega)
 unfold jw7
 simp (disch:=first|omega|rfl|apply_rules[jaa,jac,jad]) only [go_sem,zA,jr1 o,j3j o,qba o,hh]
 unfold jw8
 simp (disch:=first|omega|rfl|apply_rules[jaa,jac,jad]) only [go_sem]
 exact ⟨1,rfl⟩
open Go Go.RowKit
def S11 (f:FuncId):Bool:=Nat.beq f 22
noncomputable def F11:Fns:=PX S11 F10
theorem qqi {A:Nat->Int}:Env Try.prog A tys F11:=ji0 qqg
theorem qq9 {f:FuncId} (h1:S1 f=false) (h2:Nat.beq f jgz.f=false) (h3:S3 f=false) (h4:S4 f=false) (h5:S5 f=false) (h6:S6 f=false) (h7:S7 f=false) (h8:S8 f=false) (h9:S9 f=false) (h10:S10 f=false) (h11:S11 f=false) {vs:List AV} {h:Hp}:jd9 F11 f vs h=none:=(jbm h11).trans (qqh h1 h2 h3 h4 h5 h6 h7 h8 h9 h10)
section
variable {h:Hp} {m:Nat×Nat} {f:Fc} {s:List Bool} {Q:AV->Hp->Prop}
end
section
variable {h:Hp} {m:Nat×Nat} {f:Fc} {s:List Bool} {Q:AV->Hp->Prop}
end
end Go.Proofs.Ytaljcpoopmedmaa.Ev
