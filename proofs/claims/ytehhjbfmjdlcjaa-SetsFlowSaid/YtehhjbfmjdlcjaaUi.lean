/- Is each value made where it is used? What the code tells. -/
import Derived.Test.YtehhjbfmjdlcjaaUe
import Derived.Test.YtehhjbfmjdlcjaaGT1
import Derived.Test.YtehhjbfmjdlcjaaGT3
import Derived.Test.YtehhjbfmjdlcjaaGT5
import Derived.Test.YtehhjbfmjdlcjaaGT7
namespace Go.Proofs.Ytehhjbfmjdlcjaa.Ev
open Go Go.RowKit Go.Proofs.Ytehhjbfmjdlcjaa.Ms
attribute [local go_sem] f0i f0r f0s decide_eq_true_eq decide_eq_false_iff_not f0f and_true true_and f0m f0o reduceCtorEq decide_true decide_false f00 f0v f0u f0l Option.some.injEq f0j not_true_eq_false not_false_eq_true Hp.next_push Hp.next_put f0t Int.reduceToNat Nat.reduceAdd Nat.reduceMul Nat.reduceEqDiff Int.reduceEq Int.reduceLT Int.reduceLE Int.reduceNeg Int.reduceAdd Int.reduceSub Int.reduceMul Int.reduceNe
attribute [local go_sem ↓] reduceIte
set_option linter.all false
set_option maxRecDepth 100000
set_option maxHeartbeats 2000000
variable {x0 x1 x2 x3 x4 x5 x6 x7 x8 x9 x10 x11 x12 x13 x14 x15 x16 x17 x18 x19 x20 x21 x22 x23 x24 x25 x26 x27 x28 x29 x30 x31 x32 x33:AV} {g:FuncId} {n:Int} {vs:List AV} {idom:List Int} {a v bB:Nat}
def S8 (f:FuncId):Bool:=Nat.beq f 59||(Nat.beq f 53||(Nat.beq f 34||(Nat.beq f 35||(Nat.beq f 37||Nat.beq f 25))))
noncomputable def F8:Fns:=PX S8 F7
theorem qya {A:Nat->Int}:Env Try.prog A tys F8:=jgg qxs
theorem no8 {f:FuncId} (h1:S1 f=false) (h2:Nat.beq f jfg.f=false) (h3:S3 f=false) (h4:S4 f=false) (h5:S5 f=false) (h6:S6 f=false) (h7:S7 f=false) (h8:S8 f=false) {h:Hp}:jcm F8 f vs h=none:=(jbi h8).trans (no7 h1 h2 h3 h4 h5 h6 h7)
def S9 (f:FuncId):Bool:=Nat.beq f 54
noncomputable def F9:Fns:=PX S9 F8
theorem qyb {A:Nat->Int}:Env Try.prog A tys F9:=jgg qya
theorem no9 {f:FuncId} (h1:S1 f=false) (h2:Nat.beq f jfg.f=false) (h3:S3 f=false) (h4:S4 f=false) (h5:S5 f=false) (h6:S6 f=false) (h7:S7 f=false) (h8:S8 f=false) (h9:S9 f=false) {h:Hp}:jcm F9 f vs h=none:=(jbi h9).trans (no8 h1 h2 h3 h4 h5 h6 h7 h8)
theorem qnz {h:Hp} {Q:AV->Hp->Prop} {b:Int} (hd:Dom idom a b):WC F8 59 [.s (jah jj5 idom),vi a,vi b] h Q=Q (vb true) h :=
 jau (jbd rfl (by simp only[jat,jaz,ja6,jb0,ja0,ja7,ja4,jbk,ja8,jbe,if_true]) (qkd jdo hd))
def KP (idom:List Int) (p:Nat×Int) (k:Nat) (i:Nat):Prop:=(p.1=k/\p.2<(i:Int))∨(p.1≠k/\Dom idom p.1 k)
theorem qah {h:Hp} (ok:Ok h) {k i:Nat} (hk:KP idom (a,n) k i):WC F8 54 [.s (jah jj5 idom),.agg [si a,si n],.agg [si k,si i]] h (fun v h'=>∃ d,jgr true h' d v=some (vb true)):=by
 refine ja5 (no8 rfl rfl rfl rfl rfl rfl rfl rfl) qkb rfl ?_
 unfold j2z
 obtain⟨hA,eA,okA,nA,xA,gA⟩:=jdr ok [si a,si n] 117
 obtain⟨hB,eB,okB,nB,xB,gB⟩:=jdr okA [si k,si i] 117
 have yA:=(gB _ (by omega)).trans xA
 rw[nA] at xB
 rcases hk with⟨h1,h2⟩ | ⟨h1,h2⟩
 ·simp only at h1 h2
  have c1:((a:Int)=(k:Int))=True:=by simp;omega
  have c2:(n<(i:Int))=True:=eq_true h2
  simp(disch:=first|omega|rfl|apply_rules[jaa,jab,jad]) only[go_sem,eA,nA,eB,yA,xB,c1,c2]
  exact⟨1,rfl⟩
 ·simp only at h1 h2
  have c1:((a:Int)=(k:Int))=False:=by simp;omega
  simp(disch:=first|omega|rfl|apply_rules[jaa,jab,jad]) only[go_sem,eA,nA,eB,yA,xB,c1]
  unfold jxj
  simp(disch:=first|omega|rfl|apply_rules[jaa,jab,jad]) only[go_sem,yA,xB,qnz h2]
  exact⟨1,rfl⟩
theorem jxr {h:Hp} {Q:AV->Hp->Prop} {k i:Nat} (hk:KP idom (a,n) k i):WC F9 54 [.s (jah jj5 idom),.agg [si a,si n],.agg [si k,si i]] h Q=Q (vb true) h :=
 jau (jbd rfl (by simp only[jat,jaz,ja6,jb0,ja0,ja7,ja4,jbk,ja8,jbe,if_true]) (qah jdo hk))
def KT (idom:List Int) (T:List (Nat×Int)) (v k i:Nat):Prop:=∃ p,T[v]?=some p/\KP idom p k i
theorem qai {T:List (Nat×Int)} {l:List Ms.Opd} {k i:Nat} (hl:l.length<=10000) (hp:∀ o∈l,o.kind=1->KT idom T o.value k i) {Q:Ex->St->Prop} :
 ∀ (d j:Nat) (_:j+d=l.length) {hi:Hp} (_:Ok hi) {x14 x18 x20:AV}
  (hQ:∀ hj x14 x18 x20,Ok hj->hi.next<=hj.next->(∀ n,n<hi.next->hj.get n=hi.get n)->Q (.exit 4) (.mk [x0,.s (jah jj5 idom),x2,x3,x4,x5,x6,x7,x8,x9,x10,x11,x12,x13,x14,vi i,vi k,.s (jah jic T),x18,.s (jah jba l),x20,vi l.length,vi l.length,x23,x24,x25,x26,x27,x28,x29,x30,x31,x32,x33] hj)),
  W F9 jj8.loop (.mk [x0,.s (jah jj5 idom),x2,x3,x4,x5,x6,x7,x8,x9,x10,x11,x12,x13,x14,vi i,vi k,.s (jah jic T),x18,.s (jah jba l),x20,vi l.length,vi j,x23,x24,x25,x26,x27,x28,x29,x30,x31,x32,x33] hi) Q
 | 0,j,hd,hi,ok,x14,x18,x20,hQ=>by
  obtain rfl:j=l.length:=by omega
  rw[jal]
  unfold jj8
  simp(disch:=first|omega|rfl|apply_rules[jaa,jab,jad]) only[go_sem,f0z]
  exact hQ hi _ _ _ ok (f0g _) (fun _ _=>rfl)
 | d+1,j,hd,hi,ok,x14,x18,x20,hQ=>by
  have hlt:(j:Int)<(l.length:Int):=by omega
  obtain⟨o,hio⟩:∃ y,l[j]?=some y:=⟨_,f0a (by omega)⟩
  have ho:=hp o (f0b hio)
  have hix:=jaj (enc:=jba) (size:=5) hio rfl
  have hs:(j:Int)+1=((j+1:Nat):Int):=by omega
  obtain⟨hA,eA,okA,nA,xA,gA⟩:=jbo ok [.int .i64 0,.int .i64 0,.bool false,.int .i64 0,.int .i64 0] (jba o) 48
  unfold jba at xA eA
  rw[jal]
  unfold jj8 jxd
  by_cases e:o.kind=1
  ·have c1:((o.kind:Int)=1)=True:=by simp;omega
   obtain⟨⟨pb,pn⟩,h1,h2⟩:=ho e
   have hxs:=jaj (enc:=jic) (size:=2) h1 rfl
   simp(disch:=first|omega|rfl|apply_rules[jaa,jab,jad]) only[go_sem,jag,eq_true hlt,hix,jba,eA,xA,c1,hxs,jic,jxr h2,hs]
   exact qai hl hp d (j+1) (by omega) okA (fun hj x14 x18 x20 o n g=>hQ hj x14 x18 x20 o (by omega) (fun m hm=>(g m (by omega)).trans (gA m hm)))
  ·have c1:((o.kind:Int)=1)=False:=by simp;omega
   simp(disch:=first|omega|rfl|apply_rules[jaa,jab,jad]) only[go_sem,jag,eq_true hlt,hix,jba,eA,xA,c1,hs]
   exact qai hl hp d (j+1) (by omega) okA (fun hj x14 x18 x20 o n g=>hQ hj x14 x18 x20 o (by omega) (fun m hm=>(g m (by omega)).trans (gA m hm)))
theorem qgg {T:List (Nat×Int)} {l:List Ms.Ins} {k:Nat} (hl:l.length<=10000) (hp:∀ (i:Nat) (x:Ms.Ins),l[i]?=some x->x.ops.length<=6/\∀ o∈x.ops,o.kind=1->KT idom T o.value k i) {Q:Ex->St->Prop} :
 ∀ (d j:Nat) (_:j+d=l.length) {hi:Hp} (_:Ok hi) {x14 x15 x18 x19 x20 x21 x22 x23 x25:AV}
  (hQ:∀ hj x14 x15 x18 x19 x20 x21 x22 x23 x25,Ok hj->hi.next<=hj.next->(∀ n,n<hi.next->hj.get n=hi.get n)->Q (.exit 2) (.mk [x0,.s (jah jj5 idom),x2,x3,x4,x5,x6,x7,x8,x9,x10,x11,x12,x13,x14,x15,vi k,.s (jah jic T),x18,x19,x20,x21,x22,x23,.s (jah jc1 l),x25,vi l.length,vi l.length,x28,x29,x30,x31,x32,x33] hj)),
  W F9 jj9.loop (.mk [x0,.s (jah jj5 idom),x2,x3,x4,x5,x6,x7,x8,x9,x10,x11,x12,x13,x14,x15,vi k,.s (jah jic T),x18,x19,x20,x21,x22,x23,.s (jah jc1 l),x25,vi l.length,vi j,x28,x29,x30,x31,x32,x33] hi) Q
 | 0,j,hd,hi,ok,x14,x15,x18,x19,x20,x21,x22,x23,x25,hQ=>by
  obtain rfl:j=l.length:=by omega
  rw[jal]
  unfold jj9
  simp(disch:=first|omega|rfl|apply_rules[jaa,jab,jad]) only[go_sem,f0z]
  exact hQ hi _ _ _ _ _ _ _ _ _ ok (f0g _) (fun _ _=>rfl)
 | d+1,j,hd,hi,ok,x14,x15,x18,x19,x20,x21,x22,x23,x25,hQ=>by
  have hlt:(j:Int)<(l.length:Int):=by omega
  obtain⟨x,hio⟩:∃ y,l[j]?=some y:=⟨_,f0a (by omega)⟩
  obtain⟨hx1,hx2⟩:=hp j x hio
  have hix:=jaj (enc:=jc1) (size:=3) hio rfl
  have hs:(j:Int)+1=((j+1:Nat):Int):=by omega
  obtain⟨hA,eA,okA,nA,xA,gA⟩:=jbo ok [.int .i64 0,.nilSlice,.nilSlice] (jc1 x) 46
  have l1:=jai (enc:=jba) (l:=x.ops)
  unfold jc1 at xA eA
  rw[jal]
  unfold jj9 jxe
  simp(disch:=first|omega|rfl|apply_rules[jaa,jab,jad]) only[go_sem,jag,eq_true hlt,hix,jc1,eA,xA,l1]
  refine qai (by omega) hx2 x.ops.length 0 (by omega) okA (fun hj x14 x18 x20 o n g=>?_)
  simp(disch:=first|omega|rfl|apply_rules[jaa,jab,jad]) only[go_sem,jag,hs]
  exact qgg hl hp d (j+1) (by omega) o (fun hk x14 x15 x18 x19 x20 x21 x22 x23 x25 o' n' g'=>hQ hk x14 x15 x18 x19 x20 x21 x22 x23 x25 o' (by omega) (fun m hm=>(g' m (by omega)).trans ((g m (by omega)).trans (gA m hm))))
theorem qgh {T:List (Nat×Int)} {l:List Nat} {b:Blk} {k:Nat} (hl:l.length<=10000) (hp:∀ v∈l,KT idom T v k b.instrs.length) {Q:Ex->St->Prop} :
 ∀ (d j:Nat) (_:j+d=l.length) {hi:Hp} (_:Ok hi) (_:hi.get bB=some (.arr [jah jaq b.params,jah jc1 b.instrs,jah jee b.edges] 42)) {x3 x4 x6:AV}
  (hQ:∀ x3 x4 x6,Q (.exit 8) (.mk [x0,.s (jah jj5 idom),x2,x3,x4,.s (jah jaq l),x6,vi l.length,vi l.length,x9,x10,x11,x12,x13,x14,x15,vi k,.s (jah jic T),x18,x19,x20,x21,x22,x23,x24,x25,x26,x27,.s (.ptr bB 0),x29,x30,x31,x32,x33] hi)),
  W F9 jka.loop (.mk [x0,.s (jah jj5 idom),x2,x3,x4,.s (jah jaq l),x6,vi l.length,vi j,x9,x10,x11,x12,x13,x14,x15,vi k,.s (jah jic T),x18,x19,x20,x21,x22,x23,x24,x25,x26,x27,.s (.ptr bB 0),x29,x30,x31,x32,x33] hi) Q
 | 0,j,hd,hi,ok,xB,x3,x4,x6,hQ=>by
  obtain rfl:j=l.length:=by omega
  rw[jal]
  unfold jka
  simp(disch:=first|omega|rfl|apply_rules[jaa,jab,jad]) only[go_sem,f0z]
  exact hQ _ _ _
 | d+1,j,hd,hi,ok,xB,x3,x4,x6,hQ=>by
  have hlt:(j:Int)<(l.length:Int):=by omega
  obtain⟨v,hio⟩:∃ y,l[j]?=some y:=⟨_,f0a (by omega)⟩
  obtain⟨⟨pb,pn⟩,h1,h2⟩:=hp v (f0b hio)
  have hix:=jaj (enc:=jaq) (size:=1) hio rfl
  have hxs:=jaj (enc:=jic) (size:=2) h1 rfl
  have hs:(j:Int)+1=((j+1:Nat):Int):=by omega
  have l1:=jai (enc:=jc1) (l:=b.instrs)
  rw[jal]
  unfold jka jxg jxf
  simp(disch:=first|omega|rfl|apply_rules[jaa,jab,jad]) only[go_sem,jag,eq_true hlt,hix,jaq,hxs,jic,xB,l1,jxr h2,hs]
  exact qgh hl hp d (j+1) (by omega) ok xB hQ
theorem qgi {T:List (Nat×Int)} {l:List Ms.Edg} {b:Blk} {k:Nat} (hl:l.length<=10000) (hp:∀ e∈l,e.args.length<=10000/\∀ v∈e.args,KT idom T v k b.instrs.length) {Q:Ex->St->Prop} :
 ∀ (d j:Nat) (_:j+d=l.length) {hi:Hp} (_:Ok hi) (_:bB<hi.next) (_:hi.get bB=some (.arr [jah jaq b.params,jah jc1 b.instrs,jah jee b.edges] 42)) {x3 x4 x5 x6 x7 x8 x9 x11:AV}
  (hQ:∀ hj x3 x4 x5 x6 x7 x8 x9 x11,Ok hj->hi.next<=hj.next->(∀ n,n<hi.next->hj.get n=hi.get n)->Q (.exit 6) (.mk [x0,.s (jah jj5 idom),x2,x3,x4,x5,x6,x7,x8,x9,.s (jah jee l),x11,vi l.length,vi l.length,x14,x15,vi k,.s (jah jic T),x18,x19,x20,x21,x22,x23,x24,x25,x26,x27,.s (.ptr bB 0),x29,x30,x31,x32,x33] hj)),
  W F9 jkb.loop (.mk [x0,.s (jah jj5 idom),x2,x3,x4,x5,x6,x7,x8,x9,.s (jah jee l),x11,vi l.length,vi j,x14,x15,vi k,.s (jah jic T),x18,x19,x20,x21,x22,x23,x24,x25,x26,x27,.s (.ptr bB 0),x29,x30,x31,x32,x33] hi) Q
 | 0,j,hd,hi,ok,hb,xB,x3,x4,x5,x6,x7,x8,x9,x11,hQ=>by
  obtain rfl:j=l.length:=by omega
  rw[jal]
  unfold jkb
  simp(disch:=first|omega|rfl|apply_rules[jaa,jab,jad]) only[go_sem,f0z]
  exact hQ hi _ _ _ _ _ _ _ _ ok (f0g _) (fun _ _=>rfl)
 | d+1,j,hd,hi,ok,hb,xB,x3,x4,x5,x6,x7,x8,x9,x11,hQ=>by
  have hlt:(j:Int)<(l.length:Int):=by omega
  obtain⟨e,hio⟩:∃ y,l[j]?=some y:=⟨_,f0a (by omega)⟩
  obtain⟨he1,he2⟩:=hp e (f0b hio)
  have hix:=jaj (enc:=jee) (size:=2) hio rfl
  have hs:(j:Int)+1=((j+1:Nat):Int):=by omega
  obtain⟨hA,eA,okA,nA,xA,gA⟩:=jbo ok [.int .i64 0,.nilSlice] (jee e) 56
  have yB:=(gA _ hb).trans xB
  have l1:=jai (enc:=jaq) (l:=e.args)
  unfold jee at xA eA
  rw[jal]
  unfold jkb jxh
  simp(disch:=first|omega|rfl|apply_rules[jaa,jab,jad]) only[go_sem,jag,eq_true hlt,hix,jee,eA,xA,l1]
  refine qgh he1 he2 e.args.length 0 (by omega) okA yB (fun x3 x4 x6=>?_)
  simp(disch:=first|omega|rfl|apply_rules[jaa,jab,jad]) only[go_sem,jag,hs]
  exact qgi hl hp d (j+1) (by omega) okA (by omega) yB (fun hk x3 x4 x5 x6 x7 x8 x9 x11 o' n' g'=>hQ hk x3 x4 x5 x6 x7 x8 x9 x11 o' (by omega) (fun m hm=>(g' m (by omega)).trans (gA m hm)))
structure UsOk (idom:List Int) (f:Fc):Prop where
 nb:f.blocks.length<=10000
 sz:∀ b∈f.blocks,b.instrs.length<=10000/\b.edges.length<=10000
 us:∀ (k i:Nat) (b:Blk) (x:Ms.Ins),f.blocks[k]?=some b->b.instrs[i]?=some x->x.ops.length<=6/\∀ o∈x.ops,o.kind=1->KT idom (jep f) o.value k i
 ed:∀ (k:Nat) (b:Blk) (e:Ms.Edg),f.blocks[k]?=some b->e∈b.edges->e.args.length<=10000/\∀ v∈e.args,KT idom (jep f) v k b.instrs.length
theorem qgj {f:Fc} (u:UsOk idom f) {Q:Ex->St->Prop} :
 ∀ (d j:Nat) (_:j+d=f.blocks.length) {hi:Hp} (_:Ok hi) {x3 x4 x5 x6 x7 x8 x9 x10 x11 x12 x13 x14 x15 x16 x18 x19 x20 x21 x22 x23 x24 x25 x26 x27 x28 x30:AV}
  (hQ:∀ hj x3 x4 x5 x6 x7 x8 x9 x10 x11 x12 x13 x14 x15 x16 x18 x19 x20 x21 x22 x23 x24 x25 x26 x27 x28 x30,Q (.exit 0) (.mk [x0,.s (jah jj5 idom),x2,x3,x4,x5,x6,x7,x8,x9,x10,x11,x12,x13,x14,x15,x16,.s (jah jic (jep f)),x18,x19,x20,x21,x22,x23,x24,x25,x26,x27,x28,.s (jah ja1 f.blocks),x30,vi f.blocks.length,vi f.blocks.length,x33] hj)),
  W F9 jkc.loop (.mk [x0,.s (jah jj5 idom),x2,x3,x4,x5,x6,x7,x8,x9,x10,x11,x12,x13,x14,x15,x16,.s (jah jic (jep f)),x18,x19,x20,x21,x22,x23,x24,x25,x26,x27,x28,.s (jah ja1 f.blocks),x30,vi f.blocks.length,vi j,x33] hi) Q
 | 0,j,hd,hi,ok,x3,x4,x5,x6,x7,x8,x9,x10,x11,x12,x13,x14,x15,x16,x18,x19,x20,x21,x22,x23,x24,x25,x26,x27,x28,x30,hQ=>by
  obtain rfl:j=f.blocks.length:=by omega
  rw[jal]
  unfold jkc
  simp(disch:=first|omega|rfl|apply_rules[jaa,jab,jad]) only[go_sem,f0z]
  exact hQ hi ..
 | d+1,j,hd,hi,ok,x3,x4,x5,x6,x7,x8,x9,x10,x11,x12,x13,x14,x15,x16,x18,x19,x20,x21,x22,x23,x24,x25,x26,x27,x28,x30,hQ=>by
  have nb:=u.nb
  have hlt:(j:Int)<(f.blocks.length:Int):=by omega
  obtain⟨b,hio⟩:∃ y,f.blocks[j]?=some y:=⟨_,f0a (by omega)⟩
  obtain⟨s1,s2⟩:=u.sz b (f0b hio)
  have hix:=jaj (enc:=ja1) (size:=3) hio rfl
  have hs:(j:Int)+1=((j+1:Nat):Int):=by omega
  obtain⟨hA,eA,okA,nA,xA,gA⟩:=jbo ok [.nilSlice,.nilSlice,.nilSlice] (ja1 b) 42
  have l1:=jai (enc:=jc1) (l:=b.instrs)
  have l2:=jai (enc:=jee) (l:=b.edges)
  unfold ja1 at xA eA
  rw[jal]
  unfold jkc jxi
  simp(disch:=first|omega|rfl|apply_rules[jaa,jab,jad]) only[go_sem,jag,eq_true hlt,hix,ja1,eA,xA,l1]
  refine qgg s1 (fun i x hx=>u.us j i b x hio hx) b.instrs.length 0 (by omega) okA (fun hj x14 x15 x18 x19 x20 x21 x22 x23 x25 o n g=>?_)
  have yA:=(g _ (by omega)).trans xA
  simp(disch:=first|omega|rfl|apply_rules[jaa,jab,jad]) only[go_sem,yA,l2]
  refine qgi s2 (fun e he=>u.ed j b e hio he) b.edges.length 0 (by omega) o (by omega) yA (fun hk x3 x4 x5 x6 x7 x8 x9 x11 o' n' g'=>?_)
  simp(disch:=first|omega|rfl|apply_rules[jaa,jab,jad]) only[go_sem,jag,hs]
  exact qgj u d (j+1) (by omega) o' hQ
theorem qn0 {h:Hp} {Q:AV->Hp->Prop} {f:Fc} (hl:f.blocks.length<=10000) (hv:f.values.length<=10000) (hne:f.values≠[]) (hp:∀ b∈f.blocks,b.params.length<=10000/\b.instrs.length<=10000/\(∀ v∈b.params,v<f.values.length)/\∀ x∈b.instrs,x.ops.length<=6/\∀ o∈x.ops,o.value<f.values.length) :
 WC F9 53 [.agg [jah jaq f.values,jah ja1 f.blocks]] h Q=Q (.s (jah jic (jep f))) h :=
 jau ((jbi rfl).trans (jbd rfl (by simp only[jat,jaz,ja6,jb0,ja0,ja7,ja4,jbk,ja8,jbe,if_true]) (qke jdo hl hv hne hp)))
theorem qn1 {h:Hp} (ok:Ok h) {f:Fc} (u:UsOk idom f) (hv:f.values.length<=10000) (hne:f.values≠[]) (hp:∀ b∈f.blocks,b.params.length<=10000/\b.instrs.length<=10000/\(∀ v∈b.params,v<f.values.length)/\∀ x∈b.instrs,x.ops.length<=6/\∀ o∈x.ops,o.value<f.values.length) :
 WC F9 36 [.agg [jah jaq f.values,jah ja1 f.blocks],.s (jah jj5 idom)] h (fun v h'=>∃ d,jgr true h' d v=some (vb true)):=by
 refine ja5 (no9 rfl rfl rfl rfl rfl rfl rfl rfl rfl) qka rfl ?_
 unfold j2y
 obtain⟨hA,eA,okA,nA,xA,gA⟩:=jdr ok [jah jaq f.values,jah ja1 f.blocks] 30
 have l2:=jai (enc:=ja1) (l:=f.blocks)
 simp(disch:=first|omega|rfl|apply_rules[jaa,jab,jad]) only[go_sem,eA,xA,qn0 u.nb hv hne hp,l2]
 refine qgj u f.blocks.length 0 (by omega) okA (fun hj x3 x4 x5 x6 x7 x8 x9 x10 x11 x12 x13 x14 x15 x16 x18 x19 x20 x21 x22 x23 x24 x25 x26 x27 x28 x30=>?_)
 simp(disch:=first|omega|rfl|apply_rules[jaa,jab,jad]) only[go_sem]
 exact⟨1,rfl⟩
theorem qv6:∀ (s:List Bool),s.length<=5->oG s
 | [],_=>o_
 | [false],_=>o_f
 | [true],_=>o_t
 | [false,false],_=>qx6
 | [false,true],_=>qx2
 | [true,false],_=>qxu
 | [true,true],_=>qxy
 | [false,false,false],_=>qv2
 | [false,false,true],_=>qvy
 | [false,true,false],_=>qve
 | [false,true,true],_=>qva
 | [true,false,false],_=>qvq
 | [true,false,true],_=>qvu
 | [true,true,false],_=>qvi
 | [true,true,true],_=>qvm
 | [false,false,false,false],_=>qsh
 | [false,false,false,true],_=>qr5
 | [false,false,true,false],_=>qrd
 | [false,false,true,true],_=>qrt
 | [false,true,false,false],_=>qrl
 | [false,true,false,true],_=>qr1
 | [false,true,true,false],_=>qq1
 | [false,true,true,true],_=>qq9
 | [true,false,false,false],_=>qq5
 | [true,false,false,true],_=>qqx
 | [true,false,true,false],_=>qsl
 | [true,false,true,true],_=>qrh
 | [true,true,false,false],_=>qsd
 | [true,true,false,true],_=>qrp
 | [true,true,true,false],_=>qrx
 | [true,true,true,true],_=>qr9
 | [false,false,false,false,false],_=>ql7
 | [false,false,false,false,true],_=>qkr
 | [false,false,false,true,false],_=>qnv
 | [false,false,false,true,true],_=>qnn
 | [false,false,true,false,false],_=>qnb
 | [false,false,true,false,true],_=>qk3
 | [false,false,true,true,false],_=>qlj
 | [false,false,true,true,true],_=>qmz
 | [false,true,false,false,false],_=>qln
 | [false,true,false,false,true],_=>qlz
 | [false,true,false,true,false],_=>qmj
 | [false,true,false,true,true],_=>qnf
 | [false,true,true,false,false],_=>qmv
 | [false,true,true,false,true],_=>qm3
 | [false,true,true,true,false],_=>qnj
 | [false,true,true,true,true],_=>qkv
 | [true,false,false,false,false],_=>ql3
 | [true,false,false,false,true],_=>qkn
 | [true,false,false,true,false],_=>qnr
 | [true,false,false,true,true],_=>qkz
 | [true,false,true,false,false],_=>qm7
 | [true,false,true,false,true],_=>qlf
 | [true,false,true,true,false],_=>qlv
 | [true,false,true,true,true],_=>qlb
 | [true,true,false,false,false],_=>qk7
 | [true,true,false,false,true],_=>qmf
 | [true,true,false,true,false],_=>qmr
 | [true,true,false,true,true],_=>qlr
 | [true,true,true,false,false],_=>qkj
 | [true,true,true,false,true],_=>qmb
 | [true,true,true,true,false],_=>qmn
 | [true,true,true,true,true],_=>qkf
 | _::_::_::_::_::_::_,h=>absurd h (by simp)
theorem qv7:∀ (s:List Bool),s.length<=5->nG s
 | [],_=>n_
 | [false],_=>n_f
 | [true],_=>n_t
 | [false,false],_=>qx7
 | [false,true],_=>qx3
 | [true,false],_=>qxv
 | [true,true],_=>qxz
 | [false,false,false],_=>qv3
 | [false,false,true],_=>qvz
 | [false,true,false],_=>qvf
 | [false,true,true],_=>qvb
 | [true,false,false],_=>qvr
 | [true,false,true],_=>qvv
 | [true,true,false],_=>qvj
 | [true,true,true],_=>qvn
 | [false,false,false,false],_=>qsi
 | [false,false,false,true],_=>qr6
 | [false,false,true,false],_=>qre
 | [false,false,true,true],_=>qru
 | [false,true,false,false],_=>qrm
 | [false,true,false,true],_=>qr2
 | [false,true,true,false],_=>qq2
 | [false,true,true,true],_=>qra
 | [true,false,false,false],_=>qq6
 | [true,false,false,true],_=>qqy
 | [true,false,true,false],_=>qsm
 | [true,false,true,true],_=>qri
 | [true,true,false,false],_=>qse
 | [true,true,false,true],_=>qrq
 | [true,true,true,false],_=>qry
 | [true,true,true,true],_=>qsa
 | [false,false,false,false,false],_=>ql8
 | [false,false,false,false,true],_=>qks
 | [false,false,false,true,false],_=>qnw
 | [false,false,false,true,true],_=>qno
 | [false,false,true,false,false],_=>qnc
 | [false,false,true,false,true],_=>qk4
 | [false,false,true,true,false],_=>qlk
 | [false,false,true,true,true],_=>qm0
 | [false,true,false,false,false],_=>qlo
 | [false,true,false,false,true],_=>ql0
 | [false,true,false,true,false],_=>qmk
 | [false,true,false,true,true],_=>qng
 | [false,true,true,false,false],_=>qmw
 | [false,true,true,false,true],_=>qm4
 | [false,true,true,true,false],_=>qnk
 | [false,true,true,true,true],_=>qkw
 | [true,false,false,false,false],_=>ql4
 | [true,false,false,false,true],_=>qko
 | [true,false,false,true,false],_=>qns
 | [true,false,false,true,true],_=>qk0
 | [true,false,true,false,false],_=>qm8
 | [true,false,true,false,true],_=>qlg
 | [true,false,true,true,false],_=>qlw
 | [true,false,true,true,true],_=>qlc
 | [true,true,false,false,false],_=>qk8
 | [true,true,false,false,true],_=>qmg
 | [true,true,false,true,false],_=>qms
 | [true,true,false,true,true],_=>qls
 | [true,true,true,false,false],_=>qkk
 | [true,true,true,false,true],_=>qmc
 | [true,true,true,true,false],_=>qmo
 | [true,true,true,true,true],_=>qkg
 | _::_::_::_::_::_::_,h=>absurd h (by simp)
theorem qv8:∀ (s:List Bool),s.length<=5->iG s
 | [],_=>i_
 | [false],_=>i_f
 | [true],_=>i_t
 | [false,false],_=>qx8
 | [false,true],_=>qx4
 | [true,false],_=>qxw
 | [true,true],_=>qx0
 | [false,false,false],_=>qv4
 | [false,false,true],_=>qv0
 | [false,true,false],_=>qvg
 | [false,true,true],_=>qvc
 | [true,false,false],_=>qvs
 | [true,false,true],_=>qvw
 | [true,true,false],_=>qvk
 | [true,true,true],_=>qvo
 | [false,false,false,false],_=>qsj
 | [false,false,false,true],_=>qr7
 | [false,false,true,false],_=>qrf
 | [false,false,true,true],_=>qrv
 | [false,true,false,false],_=>qrn
 | [false,true,false,true],_=>qr3
 | [false,true,true,false],_=>qq3
 | [false,true,true,true],_=>qrb
 | [true,false,false,false],_=>qq7
 | [true,false,false,true],_=>qqz
 | [true,false,true,false],_=>qsn
 | [true,false,true,true],_=>qrj
 | [true,true,false,false],_=>qsf
 | [true,true,false,true],_=>qrr
 | [true,true,true,false],_=>qrz
 | [true,true,true,true],_=>qsb
 | [false,false,false,false,false],_=>ql9
 | [false,false,false,false,true],_=>qkt
 | [false,false,false,true,false],_=>qnx
 | [false,false,false,true,true],_=>qnp
 | [false,false,true,false,false],_=>qnd
 | [false,false,true,false,true],_=>qk5
 | [false,false,true,true,false],_=>qll
 | [false,false,true,true,true],_=>qm1
 | [false,true,false,false,false],_=>qlp
 | [false,true,false,false,true],_=>ql1
 | [false,true,false,true,false],_=>qml
 | [false,true,false,true,true],_=>qnh
 | [false,true,true,false,false],_=>qmx
 | [false,true,true,false,true],_=>qm5
 | [false,true,true,true,false],_=>qnl
 | [false,true,true,true,true],_=>qkx
 | [true,false,false,false,false],_=>ql5
 | [true,false,false,false,true],_=>qkp
 | [true,false,false,true,false],_=>qnt
 | [true,false,false,true,true],_=>qk1
 | [true,false,true,false,false],_=>qm9
 | [true,false,true,false,true],_=>qlh
 | [true,false,true,true,false],_=>qlx
 | [true,false,true,true,true],_=>qld
 | [true,true,false,false,false],_=>qk9
 | [true,true,false,false,true],_=>qmh
 | [true,true,false,true,false],_=>qmt
 | [true,true,false,true,true],_=>qlt
 | [true,true,true,false,false],_=>qkl
 | [true,true,true,false,true],_=>qmd
 | [true,true,true,true,false],_=>qmp
 | [true,true,true,true,true],_=>qkh
 | _::_::_::_::_::_::_,h=>absurd h (by simp)
theorem qv9:∀ (s:List Bool),s.length<=5->tG s
 | [],_=>t_
 | [false],_=>t_f
 | [true],_=>t_t
 | [false,false],_=>qx9
 | [false,true],_=>qx5
 | [true,false],_=>qxx
 | [true,true],_=>qx1
 | [false,false,false],_=>qv5
 | [false,false,true],_=>qv1
 | [false,true,false],_=>qvh
 | [false,true,true],_=>qvd
 | [true,false,false],_=>qvt
 | [true,false,true],_=>qvx
 | [true,true,false],_=>qvl
 | [true,true,true],_=>qvp
 | [false,false,false,false],_=>qsk
 | [false,false,false,true],_=>qr8
 | [false,false,true,false],_=>qrg
 | [false,false,true,true],_=>qrw
 | [false,true,false,false],_=>qro
 | [false,true,false,true],_=>qr4
 | [false,true,true,false],_=>qq4
 | [false,true,true,true],_=>qrc
 | [true,false,false,false],_=>qq8
 | [true,false,false,true],_=>qq0
 | [true,false,true,false],_=>qso
 | [true,false,true,true],_=>qrk
 | [true,true,false,false],_=>qsg
 | [true,true,false,true],_=>qrs
 | [true,true,true,false],_=>qr0
 | [true,true,true,true],_=>qsc
 | [false,false,false,false,false],_=>qma
 | [false,false,false,false,true],_=>qku
 | [false,false,false,true,false],_=>qny
 | [false,false,false,true,true],_=>qnq
 | [false,false,true,false,false],_=>qne
 | [false,false,true,false,true],_=>qk6
 | [false,false,true,true,false],_=>qlm
 | [false,false,true,true,true],_=>qm2
 | [false,true,false,false,false],_=>qlq
 | [false,true,false,false,true],_=>ql2
 | [false,true,false,true,false],_=>qmm
 | [false,true,false,true,true],_=>qni
 | [false,true,true,false,false],_=>qmy
 | [false,true,true,false,true],_=>qm6
 | [false,true,true,true,false],_=>qnm
 | [false,true,true,true,true],_=>qky
 | [true,false,false,false,false],_=>ql6
 | [true,false,false,false,true],_=>qkq
 | [true,false,false,true,false],_=>qnu
 | [true,false,false,true,true],_=>qk2
 | [true,false,true,false,false],_=>qna
 | [true,false,true,false,true],_=>qli
 | [true,false,true,true,false],_=>qly
 | [true,false,true,true,true],_=>qle
 | [true,true,false,false,false],_=>qla
 | [true,true,false,false,true],_=>qmi
 | [true,true,false,true,false],_=>qmu
 | [true,true,false,true,true],_=>qlu
 | [true,true,true,false,false],_=>qkm
 | [true,true,true,false,true],_=>qme
 | [true,true,true,true,false],_=>qmq
 | [true,true,true,true,true],_=>qki
 | _::_::_::_::_::_::_,h=>absurd h (by simp)
theorem jz8 {α β:Type} (g:α->β):∀ (l:List α),(l.map (fun v=>(v,g v))).map (·.1)=l
 | []=>rfl
 | a::l=>congrArg (a::·) (jz8 g l)
theorem qds (b i:Nat) (ops:List Ms.Opd):(evO b i ops).map (·.1)=dfO ops:=jz8 _ _
theorem j21 (b:Nat):∀ (l:List Ms.Ins) (i:Nat),(evI b i l).map (·.1)=(l.map jbt).flatten
 | [],i=>rfl
 | x::l,i=>by
  unfold evI
  rw[f3u,qds,j21 b l]
  rfl
theorem ju3:∀ (l:List Blk) (k:Nat),(evL k l).map (·.1)=jdb l
 | [],k=>rfl
 | b::l,k=>by
  unfold evL evB evP
  rw[f3u,f3u,j21,ju3 l,jz8]
  simp[jdb,jej]
theorem qaj {b:Nat} {y:Ms.Ins} (hv:v∈jbt y):∀ {l:List Ms.Ins} {i j:Nat},l[i]?=some y->(v,(b,((j+i:Nat):Int)))∈evI b j l
 | [],i,j,h=>by simp at h
 | x::l,0,j,h=>by
  simp only[f1n,Option.some.injEq] at h
  subst h
  unfold evI
  exact f1f _ (f1m.2 ⟨v,hv,rfl⟩)
 | x::l,i+1,j,h=>by
  simp only[f21] at h
  unfold evI
  have:=qaj (b:=b) hv (j:=j+1) h
  rw[show j+1+i=j+(i+1) by omega] at this
  exact f1a _ this
theorem qak {b:Nat}:∀ {l:List Blk} {k:Nat} {i:Nat},b=k+i->jpy l v i n->(v,(b,n))∈evL k l
 | [],k,i,e,h=>by
  obtain⟨x,h1,_⟩:=h
  simp at h1
 | x::l,k,0,e,h=>by
  obtain⟨y,h1,h2⟩:=h
  simp only[f1n,Option.some.injEq] at h1
  subst h1
  rw[f0u] at e
  subst e
  unfold evL evB
  refine f1f _ ?_
  rcases h2 with⟨rfl,h2⟩ | ⟨i,y,rfl,h2,h3⟩
  ·exact f1f _ (f1m.2 ⟨v,h2,rfl⟩)
  ·have:=qaj (b:=b) h3 (j:=0) h2
   rw[f0l] at this
   exact f1a _ this
 | x::l,k,i+1,e,h=>by
  unfold evL
  refine f1a _ (qak (i:=i) (by omega) ?_)
  obtain⟨y,h1,h2⟩:=h
  exact⟨y,by simpa using h1,h2⟩
theorem qal:∀ (l:List (Nat×(Nat×Int))) (T:List (Nat×Int)),v∉l.map (·.1)->(spF T l)[v]?=T[v]?
 | [],T,_=>rfl
 | e::l,T,h=>by
  simp only[f28,f0e,not_or] at h
  show(spF (T.set e.1 e.2) l)[v]?=_
  rw[qal l _ h.2,f15 (fun x=>h.1 x.symm)]
theorem qam {p:Nat×Int}:∀ (l:List (Nat×(Nat×Int))) (T:List (Nat×Int)),(l.map (·.1)).Nodup->v<T.length->(v,p)∈l->(spF T l)[v]?=some p
 | [],T,_,_,h=>by cases h
 | e::l,T,hd,hv,h=>by
  rw[f28,f04] at hd
  show(spF (T.set e.1 e.2) l)[v]?=_
  rcases f0e.1 h with rfl | h
  ·rw[qal l _ hd.1,List.getElem?_set_self hv]
  ·exact qam l _ hd.2 (by rw[f2b];exact hv) h
theorem qdt {f:Fc} (hm:(jdb f.blocks).Perm (List.range f.values.length)) {b:Nat} (h:jpy f.blocks v b n):(jep f)[v]?=some (b,n):=by
 have hmem:=qak (k:=0) (i:=b) (f0l b).symm h
 have hk:v∈jdb f.blocks:=by rw[←ju3 f.blocks 0];exact f1m.2 ⟨_,hmem,rfl⟩
 have hv:v<f.values.length:=f2g.1 (hm.mem_iff.1 hk)
 unfold jep
 exact qam _ _ (by rw[ju3];exact hm.nodup_iff.2 List.nodup_range) (by rw[f3a];exact hv) hmem
theorem jpz.kt {f:Fc} (hm:(jdb f.blocks).Perm (List.range f.values.length)) {k i:Nat} (h:jpz idom f.blocks v k i):KT idom (jep f) v k i:=by
 obtain⟨b,n,h1,h2⟩:=h
 exact⟨(b,n),qdt hm h1,h2⟩
def gPs (l:List Blk) (k:Nat):SV:=jah jaq (l.getD k jgx).params
def gIs (l:List Blk) (k:Nat):SV:=jah jc1 (l.getD k jgx).instrs
def gAs (l:List Blk) (k j:Nat):SV:=jah jaq ((l.getD k jgx).edges.getD j ⟨0,[]⟩).args
theorem qan (a:Nat->SV):∀ (r p:List Ms.Edg),(∀ j,a j=jah jaq ((p++r).getD j ⟨0,[]⟩).args)->qtl a p.length (r.map (·.block))=r.map jee
 | [],p,h=>rfl
 | e::r,p,h=>by
  show[si e.block,a p.length]::qtl a (p.length+1) (r.map (·.block))=jee e::r.map jee
  have h1:a p.length=jah jaq e.args:=by
   rw[h,f0d,f06 (f0g _)];simp
  have h2:=qan a r (p++[e]) (fun j=>by rw[h];simp)
  rw[f1h] at h2
  rw[h1]
  exact congrArg _ h2
theorem qn2 (a:Nat->SV) (l:List Ms.Edg) (h:∀ j,a j=jah jaq (l.getD j ⟨0,[]⟩).args):qtm a (l.map (·.block))=jah jee l:=by
 cases l with
 | nil=>rfl
 | cons e r =>
  have:=qan a (e::r) [] (by simpa using h)
  exact congrArg SV.lst this
theorem j22 (l:List Blk):∀ (r p:List Blk),p++r=l->j93 (gPs l) (gIs l) (gAs l) p.length (grL r)=r.map ja1
 | [],p,h=>rfl
 | b::r,p,h=>by
  have hb:l.getD p.length jgx=b:=by rw[←h,f0d,f06 (f0g _)];simp
  show[gPs l p.length,gIs l p.length,qtm (gAs l p.length) (qdn b)]::j93 (gPs l) (gIs l) (gAs l) (p.length+1) (grL r)=ja1 b::r.map ja1
  have h1:qtm (gAs l p.length) (qdn b)=jah jee b.edges:=qn2 _ _ (fun j=>by unfold gAs;rw[hb])
  have h2:=j22 l r (p++[b]) (by rw[←h];simp)
  rw[f1h] at h2
  rw[h1]
  unfold gPs gIs
  rw[hb]
  exact congrArg _ h2
theorem ju4 {f:Fc} (hne:f.blocks≠[]):[jah jaq f.values,jah ja1 f.blocks]=qtn (grL f.blocks) (jah jaq f.values) (gPs f.blocks) (gIs f.blocks) (gAs f.blocks):=by
 have h:=j22 f.blocks f.blocks [] rfl
 unfold qtn
 rw[show j93 (gPs f.blocks) (gIs f.blocks) (gAs f.blocks) 0 (grL f.blocks)=f.blocks.map ja1 from h]
 cases e:f.blocks with
 | nil=>exact absurd e hne
 | cons b r=>rfl
section
variable {f:Fc} {s:List Bool} {h:Hp} {Q:AV->Hp->Prop}
theorem qdu (hs:s.length<=5) (hg:grL f.blocks=gS s) (hne:f.blocks≠[]):jcm F8 34 [.agg [jah jaq f.values,jah ja1 f.blocks]] h=some (.s (jah jaq (jki s 0)),h) :=
 jbd rfl (by simp only[jat,jaz,ja6,jb0,ja0,ja7,ja4,jbk,ja8,jbe,if_true]) (by rw[ju4 hne,hg];exact jj6 (qv6 s hs _ _ _ _))
theorem qn3 (hs:s.length<=5) (hg:grL f.blocks=gS s) (hne:f.blocks≠[]):jcm F8 35 [.agg [jah jaq f.values,jah ja1 f.blocks]] h=some (.s (jah juy (jqh (gS s))),h) :=
 jbd rfl (by simp only[jat,jaz,ja6,jb0,ja0,ja7,ja4,jbk,ja8,jbe,if_true]) (by rw[ju4 hne,hg];exact jj6 (qv7 s hs _ _ _ _))
theorem qdv (hs:s.length<=5) (hg:grL f.blocks=gS s) (hne:f.blocks≠[]):jcm F8 37 [.agg [jah jaq f.values,jah ja1 f.blocks],.s (jah jaq (jki s 0))] h=some (.s (jah jj5 (jc5 s)),h) :=
 jbd rfl (by simp only[jat,jaz,ja6,jb0,ja0,ja7,ja4,jbk,ja8,jbe,if_true]) (by rw[ju4 hne,hg];exact jj6 (qv8 s hs _ _ _ _))
theorem qn4 (hs:s.length<=5) (hg:grL f.blocks=gS s) (hne:f.blocks≠[]):jcm F8 25 [.agg [jah jaq f.values,jah ja1 f.blocks]] h=some (.agg (j4q (jki s 0) (jc5 s) (qj5 s)),h) :=
 jbd rfl (by simp only[jat,jaz,ja6,jb0,ja0,ja7,ja4,jbk,ja8,jbe,if_true]) (by rw[ju4 hne,hg];exact jj6 (qv9 s hs _ _ _ _))
end
def shp:Nat->List (List Bool)
 | 0=>[[]]
 | n+1=>[]::((shp n).map (false::·)++(shp n).map (true::·))
theorem qao:∀ (n:Nat) (s:List Bool),s.length<=n->s∈shp n
 | 0,s,h=>by
  have:=f1x (Nat.le_zero.1 h)
  subst this;exact f0n.2 rfl
 | n+1,[],h=>by unfold shp;simp
 | n+1,b::s,h=>by
  have:=qao n s (by simpa using h)
  unfold shp
  refine f1g _ (f0h.2 ?_)
  cases b
  ·exact .inl (f1m.2 ⟨s,this,rfl⟩)
  ·exact .inr (f1m.2 ⟨s,this,rfl⟩)
theorem shp_all {P:List Bool->Bool} (h:(shp 5).all P=true) {s:List Bool} (hs:s.length<=5):P s=true:=f2h.1 h s (qao 5 s hs)
def qw0 (g:List (List Nat)):Bool:=g.all (fun es=>es.length<=1||es.all (fun t=>((jqh g).getD t [0,0]).length<=1))
theorem qdw:(shp 5).all (fun s=>qw0 (gS s))=true:=by kernel_rfl
theorem ju5:∀ (s:List Bool) (c:Nat),(jki s c).length=1+3*s.length
 | [],c=>rfl
 | false::s,c=>by simp[jki,ju5 s];omega
 | true::s,c=>by simp[jki,ju5 s];omega
structure FlOk (m:Nat×Nat) (f:Fc) (s:List Bool):Prop where
 k:FcOk m f
 on:jpp f=0
 hs:s.length<=5
 hg:grL f.blocks=gS s
 hv:f.values≠[]
 us:UsOk (jc5 s) f
theorem FlOk.hne {m:Nat×Nat} {f:Fc} {s:List Bool} (o:FlOk m f s):f.blocks≠[]:=f1s.1 (by have:=o.k.nb;omega)
theorem FlOk.len {m:Nat×Nat} {f:Fc} {s:List Bool} (o:FlOk m f s):f.blocks.length=1+3*s.length:=by rw[←jed,o.hg,j95]
theorem qap {m:Nat×Nat} (m1:2<=m.1/\m.1<=10) (m2:2<=m.2/\m.2<=10) (l:List Pc):∃ s,FlOk m (jd2 m l) s/\(jdb (jd2 m l).blocks).Perm (List.range (jd2 m l).values.length) /\
 (∀ (k i:Nat) (b:Blk) (x:Ms.Ins) (o:Ms.Opd),(jd2 m l).blocks[k]?=some b->b.instrs[i]?=some x->o∈x.ops->o.kind=1->jpz (jc5 s) (jd2 m l).blocks o.value k i):=by
 obtain⟨k,kp,_⟩:=jt7 m1 m2 l
 obtain⟨s,h1,h2,h3,h4⟩:=jrs m1 m2 l
 have hv:(jd2 m l).values≠[]:=by
  obtain⟨b,g,c,n,_⟩:=((jj2 m1 m2).pieces (l.take 24)).bd.lay ⟨0,0,1,0,0,0,3⟩
  obtain⟨_,_,_,_,_,_,_,_,cs,e1,e2,_⟩:=qiz ((jj2 m1 m2).pieces (l.take 24)).v ⟨0,0,1,0,0,0,3⟩
  have:(jd2 m l).values=(jcl ((l.take 24).foldl jbs (jbp m)) ⟨0,0,1,0,0,0,3⟩).values:=rfl
  rw[this,e2]
  rcases e1 with rfl | rfl<;>simp
 refine⟨s,⟨k,j2j kp,h1,h2,hv,⟨by have:=k.nb;omega,fun b hb=>by have:=k.blk b hb;omega,fun a i b x hb hx=>⟨(k.ins b (f0b hb) x (f0b hx)).nops,fun o ho hk=>jpz.kt kp (h3 a i b x o hb hx ho hk)⟩,fun a b e hb he=>⟨?_,fun v hv=>jpz.kt kp (h4 a b e v hb he hv)⟩⟩⟩,kp,h3⟩
 obtain⟨_,_,t,h5,h6,_⟩:=k.edg b (f0b hb) e he
 have h7:=(k.blk t (f0b h5)).1
 have:=congrArg List.length h6
 simp only[f1d] at this
 omega
def S10 (f:FuncId):Bool:=Nat.beq f 36
noncomputable def F10:Fns:=PX S10 F9
theorem qwa {A:Nat->Int}:Env Try.prog A tys F10:=jgg qyb
theorem qw1 {f:FuncId} (h1:S1 f=false) (h2:Nat.beq f jfg.f=false) (h3:S3 f=false) (h4:S4 f=false) (h5:S5 f=false) (h6:S6 f=false) (h7:S7 f=false) (h8:S8 f=false) (h9:S9 f=false) (h10:S10 f=false) {h:Hp}:jcm F10 f vs h=none:=(jbi h10).trans (no9 h1 h2 h3 h4 h5 h6 h7 h8 h9)
section
variable {h:Hp} {m:Nat×Nat} {f:Fc} {s:List Bool} {Q:AV->Hp->Prop}
theorem qol (h9:S9 g=false) (h10:S10 g=false):jcm F10 g vs h=jcm F8 g vs h:=(jbi h10).trans (jbi h9)
theorem qdx (o:FlOk m f s) (m1:2<=m.1/\m.1<=10) (m2:2<=m.2/\m.2<=10):WC F10 33 [.agg [jah jaq f.values,jah ja1 f.blocks],.agg [si m.1,si m.2]] h Q=Q (vi 0) h :=
 jau ((qol rfl rfl).trans ((jbi rfl).trans (by rw[qqg o.k m1 m2,o.on];rfl)))
theorem jrt (o:FlOk m f s):WC F10 34 [.agg [jah jaq f.values,jah ja1 f.blocks]] h Q=Q (.s (jah jaq (jki s 0))) h:=jau ((qol rfl rfl).trans (qdu o.hs o.hg o.hne))
theorem qaq (o:FlOk m f s):WC F10 35 [.agg [jah jaq f.values,jah ja1 f.blocks]] h Q=Q (.s (jah juy (jqh (gS s)))) h:=jau ((qol rfl rfl).trans (qn3 o.hs o.hg o.hne))
theorem j4r (o:FlOk m f s):WC F10 37 [.agg [jah jaq f.values,jah ja1 f.blocks],.s (jah jaq (jki s 0))] h Q=Q (.s (jah jj5 (jc5 s))) h:=jau ((qol rfl rfl).trans (qdv o.hs o.hg o.hne))
theorem qdy (o:FlOk m f s):WC F10 36 [.agg [jah jaq f.values,jah ja1 f.blocks],.s (jah jj5 (jc5 s))] h Q=Q (vb true) h :=
 jau (jbd rfl (by simp only[jat,jaz,ja6,jb0,ja0,ja7,ja4,jbk,ja8,jbe,if_true]) (qn1 jdo o.us (by have:=o.k.nv;omega) o.hv (j81 o.k)))
end
theorem FlOk.pred {m:Nat×Nat} {f:Fc} {s:List Bool} (o:FlOk m f s) {b:Blk} (hb:b∈f.blocks) (h:1<b.edges.length) {e:Ms.Edg} (he:e∈b.edges):∃ pl,(jqh (gS s))[e.block]?=some pl/\pl.length<=1:=by
 have h1:=shp_all qdw o.hs
 unfold qw0 at h1
 rw[f2h] at h1
 have h2:=h1 (qdn b) (by rw[←o.hg];exact f1m.2 ⟨b,hb,rfl⟩)
 simp only[f14,decide_eq_true_eq,f2h] at h2
 have h3:=h2.resolve_left (by unfold qdn;rw[f1d];omega) e.block (f1m.2 ⟨e,he,rfl⟩)
 rw[f0d] at h3
 cases hq:(jqh (gS s))[e.block]? with
 | none=>rw[hq] at h3;simp at h3
 | some pl=>rw[hq] at h3;exact⟨pl,rfl,h3⟩
theorem qar {m:Nat×Nat} {f:Fc} {s:List Bool} (o:FlOk m f s) {b:Blk} (hb:b∈f.blocks) {Q:Ex->St->Prop} :
 ∀ (d j:Nat) (_:j+d=b.edges.length) {hi:Hp} (_:Ok hi) (_:bB<hi.next) (_:hi.get bB=some (.arr [jah jaq b.params,jah jc1 b.instrs,jah jee b.edges] 42)) {x4 x5 x8:AV}
  (hQ:∀ hj x4 x5 x8,Ok hj->hi.next<=hj.next->(∀ n,n<hi.next->hj.get n=hi.get n)->Q (.exit 2) (.mk [x0,x1,x2,x3,x4,x5,.s (jah juy (jqh (gS s))),.s (jah jee b.edges),x8,vi b.edges.length,vi b.edges.length,.s (.ptr bB 0),x12,x13,x14,x15,x16,x17,x18,x19,x20] hj)),
  W F10 jkd.loop (.mk [x0,x1,x2,x3,x4,x5,.s (jah juy (jqh (gS s))),.s (jah jee b.edges),x8,vi b.edges.length,vi j,.s (.ptr bB 0),x12,x13,x14,x15,x16,x17,x18,x19,x20] hi) Q
 | 0,j,hd,hi,ok,hB,xB,x4,x5,x8,hQ=>by
  obtain rfl:j=b.edges.length:=by omega
  rw[jal]
  unfold jkd
  simp(disch:=first|omega|rfl|apply_rules[jaa,jab,jad]) only[go_sem,f0z]
  exact hQ hi _ _ _ ok (f0g _) (fun _ _=>rfl)
 | d+1,j,hd,hi,ok,hB,xB,x4,x5,x8,hQ=>by
  have hlt:(j:Int)<(b.edges.length:Int):=by omega
  have hne:=(o.k.blk b hb).2.2
  obtain⟨e,hio⟩:∃ y,b.edges[j]?=some y:=⟨_,f0a (by omega)⟩
  have hix:=jaj (enc:=jee) (size:=2) hio rfl
  have hs:(j:Int)+1=((j+1:Nat):Int):=by omega
  obtain⟨hA,eA,okA,nA,xA,gA⟩:=jbo ok [.int .i64 0,.nilSlice] (jee e) 56
  have yB:=(gA _ hB).trans xB
  have l2:=jai (enc:=jee) (l:=b.edges)
  unfold jee at xA eA
  rw[jal]
  unfold jkd jxl
  by_cases h1:1<b.edges.length
  ·have c1:(1<(b.edges.length:Int))=True:=by simp;omega
   obtain⟨pl,h2,h3⟩:=o.pred hb h1 (f0b hio)
   have hxp:=jaj (enc:=juy) (size:=1) h2 rfl
   have l3:=jai (enc:=jaq) (l:=pl)
   have c2:(1<(pl.length:Int))=False:=by simp;omega
   simp(disch:=first|omega|rfl|apply_rules[jaa,jab,jad]) only[go_sem,jag,eq_true hlt,hix,jee,eA,xA,yB,l2,c1,hxp,juy,l3,c2,hs]
   exact qar o hb d (j+1) (by omega) okA (by omega) yB (fun hj x4 x5 x8 ok' n g=>hQ hj x4 x5 x8 ok' (by omega) (fun q hq=>(g q (by omega)).trans (gA q hq)))
  ·have c1:(1<(b.edges.length:Int))=False:=by simp;omega
   simp(disch:=first|omega|rfl|apply_rules[jaa,jab,jad]) only[go_sem,jag,eq_true hlt,hix,jee,eA,xA,yB,l2,c1,hs]
   exact qar o hb d (j+1) (by omega) okA (by omega) yB (fun hj x4 x5 x8 ok' n g=>hQ hj x4 x5 x8 ok' (by omega) (fun q hq=>(g q (by omega)).trans (gA q hq)))
theorem qgk {m:Nat×Nat} {f:Fc} {s:List Bool} (o:FlOk m f s) {bF:Nat} {Q:Ex->St->Prop} :
 ∀ (d j:Nat) (_:j+d=f.blocks.length) {hi:Hp} (_:Ok hi) (_:bF<hi.next) {x4 x5 x7 x8 x9 x10 x11 x13:AV}
  (hQ:∀ hj x4 x5 x7 x8 x9 x10 x11 x13,Ok hj->hi.next<=hj.next->hj.get bF=hi.get bF->Q (.exit 0) (.mk [x0,x1,x2,x3,x4,x5,.s (jah juy (jqh (gS s))),x7,x8,x9,x10,x11,.s (jah ja1 f.blocks),x13,vi f.blocks.length,vi f.blocks.length,x16,x17,x18,x19,.s (.ptr bF 0)] hj)),
  W F10 jke.loop (.mk [x0,x1,x2,x3,x4,x5,.s (jah juy (jqh (gS s))),x7,x8,x9,x10,x11,.s (jah ja1 f.blocks),x13,vi f.blocks.length,vi j,x16,x17,x18,x19,.s (.ptr bF 0)] hi) Q
 | 0,j,hd,hi,ok,hB,x4,x5,x7,x8,x9,x10,x11,x13,hQ=>by
  obtain rfl:j=f.blocks.length:=by omega
  rw[jal]
  unfold jke
  simp(disch:=first|omega|rfl|apply_rules[jaa,jab,jad]) only[go_sem,f0z]
  exact hQ hi _ _ _ _ _ _ _ _ ok (f0g _) rfl
 | d+1,j,hd,hi,ok,hB,x4,x5,x7,x8,x9,x10,x11,x13,hQ=>by
  have nb:=o.k.nb
  have hlt:(j:Int)<(f.blocks.length:Int):=by omega
  obtain⟨b,hio⟩:∃ y,f.blocks[j]?=some y:=⟨_,f0a (by omega)⟩
  have hbm:=f0b hio
  have hix:=jaj (enc:=ja1) (size:=3) hio rfl
  have hs:(j:Int)+1=((j+1:Nat):Int):=by omega
  obtain⟨hA,eA,okA,nA,xA,gA⟩:=jbo ok [.nilSlice,.nilSlice,.nilSlice] (ja1 b) 42
  have l2:=jai (enc:=jee) (l:=b.edges)
  unfold ja1 at xA eA
  rw[jal]
  unfold jke jxm
  simp(disch:=first|omega|rfl|apply_rules[jaa,jab,jad]) only[go_sem,jag,eq_true hlt,hix,ja1,eA,xA,l2]
  refine qar o hbm b.edges.length 0 (by omega) okA (by omega) xA (fun hj x4 x5 x8 ok' n g=>?_)
  simp(disch:=first|omega|rfl|apply_rules[jaa,jab,jad]) only[go_sem,jag,hs]
  exact qgk o d (j+1) (by omega) ok' (by omega) (fun hk x4 x5 x7 x8 x9 x10 x11 x13 o' n' g'=>hQ hk x4 x5 x7 x8 x9 x10 x11 x13 o' (by omega) (g'.trans ((g _ (by omega)).trans (gA _ hB))))
theorem qn5 {h:Hp} (ok:Ok h) {m:Nat×Nat} {f:Fc} {s:List Bool} (o:FlOk m f s) (m1:2<=m.1/\m.1<=10) (m2:2<=m.2/\m.2<=10):WC F10 24 [.agg [jah jaq f.values,jah ja1 f.blocks],.agg [si m.1,si m.2]] h (fun v h'=>∃ d,jgr true h' d v=some (vi 0)):=by
 refine ja5 (qw1 rfl rfl rfl rfl rfl rfl rfl rfl rfl rfl) qkc rfl ?_
 unfold j20
 obtain⟨hA,eA,okA,nA,xA,gA⟩:=jdr ok [jah jaq f.values,jah ja1 f.blocks] 30
 obtain⟨hB,eB,okB,nB,xB,gB⟩:=jdr okA [si m.1,si m.2] 25
 have yA:=(gB _ (by omega)).trans xA
 rw[nA] at xB
 have l2:=jai (enc:=ja1) (l:=f.blocks)
 have l3:=jai (enc:=jaq) (l:=jki s 0)
 have c1:(((jki s 0).length:Int)<(f.blocks.length:Int))=False:=eq_false (by rw[ju5,o.len];omega)
 have hh:(hB.next<=h.next/\h.next<hB.next)=False:=eq_false (by omega)
 simp(disch:=first|omega|rfl|apply_rules[jaa,jab,jad]) only[go_sem,eA,eB,nA,yA,xB,qdx o m1 m2]
 unfold jxq jxk
 simp(disch:=first|omega|rfl|apply_rules[jaa,jab,jad]) only[go_sem,yA,xB,jrt o,l3,l2,c1,hh]
 unfold jxp
 simp(disch:=first|omega|rfl|apply_rules[jaa,jab,jad]) only[go_sem,yA,qaq o,l2]
 refine qgk o f.blocks.length 0 (by omega) okB (by omega) (fun hj x4 x5 x7 x8 x9 x10 x11 x13 o' n g=>?_)
 have zA:=g.trans yA
 have hh:(hj.next<=h.next/\h.next<hj.next)=False:=eq_false (by omega)
 unfold jxn
 simp(disch:=first|omega|rfl|apply_rules[jaa,jab,jad]) only[go_sem,zA,jrt o,j4r o,qdy o,hh]
 unfold jxo
 simp(disch:=first|omega|rfl|apply_rules[jaa,jab,jad]) only[go_sem]
 exact⟨1,rfl⟩
def S11 (f:FuncId):Bool:=Nat.beq f 24
noncomputable def F11:Fns:=PX S11 F10
theorem qwb {A:Nat->Int}:Env Try.prog A tys F11:=jgg qwa
theorem qw2 {f:FuncId} (h1:S1 f=false) (h2:Nat.beq f jfg.f=false) (h3:S3 f=false) (h4:S4 f=false) (h5:S5 f=false) (h6:S6 f=false) (h7:S7 f=false) (h8:S8 f=false) (h9:S9 f=false) (h10:S10 f=false) (h11:S11 f=false) {h:Hp}:jcm F11 f vs h=none:=(jbi h11).trans (qw1 h1 h2 h3 h4 h5 h6 h7 h8 h9 h10)
section
variable {h:Hp} {m:Nat×Nat} {f:Fc} {s:List Bool} {Q:AV->Hp->Prop}
theorem qn6 (o:FlOk m f s) (m1:2<=m.1/\m.1<=10) (m2:2<=m.2/\m.2<=10):jcm F11 24 [.agg [jah jaq f.values,jah ja1 f.blocks],.agg [si m.1,si m.2]] h=some (vi 0,h):=jbd rfl (by simp only[jat,jaz,ja6,jb0,ja0,ja7,ja4,jbk,ja8,jbe,if_true]) (qn5 jdo o m1 m2)
theorem qas (o:FlOk m f s):WC F11 25 [.agg [jah jaq f.values,jah ja1 f.blocks]] h Q=Q (.agg (j4q (jki s 0) (jc5 s) (qj5 s))) h :=
 jau ((jbi rfl).trans ((qol rfl rfl).trans (qn4 o.hs o.hg o.hne)))
theorem qdz (o:FlOk m f s) (m1:2<=m.1/\m.1<=10) (m2:2<=m.2/\m.2<=10):WC F11 24 [.agg [jah jaq f.values,jah ja1 f.blocks],.agg [si m.1,si m.2]] h Q=Q (vi 0) h:=jau (qn6 o m1 m2)
end
def qd0 (s:List Bool):AV:=.tup [(true,j4q (jki s 0) (jc5 s) (qj5 s)),(false,[si 0])]
theorem jkf {α:Type} {h:Hp} {d:Nat} {enc:α->List SV} {l:List α}:jhx true h (d+1) (jah enc l)=some (jah enc l):=by cases l<;>rfl
theorem qd1 {h:Hp} {s:List Bool}:jgr true h 2 (.tup [(true,[jah jaq (jki s 0),jah jj5 (jc5 s),jah jaq (qj5 s)]),(false,[.int .i64 0])])=some (qd0 s):=by
 show ob (ob (jhf (jhx true h 2) [jah jaq (jki s 0),jah jj5 (jc5 s),jah jaq (qj5 s)]) (fun x=>ob (qb5 (jhx true h 2) [(false,[.int .i64 0])]) (fun r=>some ((true,x)::r)))) (fun y=>some (AV.tup y))=_
 rw[jb6 jkf (jb6 jkf (jmp jkf))]
 rfl
theorem qn7 {h:Hp} (ok:Ok h) {m:Nat×Nat} {f:Fc} {s:List Bool} (o:FlOk m f s) (m1:2<=m.1/\m.1<=10) (m2:2<=m.2/\m.2<=10):WC F11 12 [.agg [jah jaq f.values,jah ja1 f.blocks],.agg [si m.1,si m.2]] h (fun v h'=>∃ d,jgr true h' d v=some (qd0 s)):=by
 refine ja5 (qw2 rfl rfl rfl rfl rfl rfl rfl rfl rfl rfl rfl) qu9 rfl ?_
 unfold qgc
 obtain⟨hA,eA,okA,nA,xA,gA⟩:=jdr ok [jah jaq f.values,jah ja1 f.blocks] 30
 obtain⟨hB,eB,okB,nB,xB,gB⟩:=jdr okA [si m.1,si m.2] 25
 obtain⟨hC,eC,okC,nC,xC,gC⟩:=jdr okB [.nilSlice,.nilSlice,.nilSlice] 36
 have yA:=(gC _ (by omega)).trans ((gB _ (by omega)).trans xA)
 have yB:=(gC _ (by omega)).trans xB
 have nb:hB.next=h.next+2:=by omega
 rw[nA] at yB
 rw[nb] at xC
 simp(disch:=first|omega|rfl|apply_rules[jaa,jab,jad]) only[go_sem,eA,eB,eC,nA,nb,yA,yB,qdz o m1 m2]
 unfold qad
 simp(disch:=first|omega|rfl|apply_rules[jaa,jab,jad]) only[go_sem,yA,qas o,j4q,xC]
 exact⟨2,qd1⟩
def S12 (f:FuncId):Bool:=Nat.beq f 12
noncomputable def F12:Fns:=PX S12 F11
theorem qwc {A:Nat->Int}:Env Try.prog A tys F12:=jgg qwb
theorem qyc {f:FuncId} (h1:S1 f=false) (h2:Nat.beq f jfg.f=false) (h3:S3 f=false) (h4:S4 f=false) (h5:S5 f=false) (h6:S6 f=false) (h7:S7 f=false) (h8:S8 f=false) (h9:S9 f=false) (h10:S10 f=false) (h11:S11 f=false) (h12:S12 f=false) {h:Hp}:jcm F12 f vs h=none:=(jbi h12).trans (qw2 h1 h2 h3 h4 h5 h6 h7 h8 h9 h10 h11)
section
variable {h:Hp} {m:Nat×Nat} {f:Fc} {s:List Bool} {Q:AV->Hp->Prop}
theorem qsp (h4:S4 g=false) (h5:S5 g=false) (h6:S6 g=false) (h7:S7 g=false) (h8:S8 g=false) (h9:S9 g=false) (h10:S10 g=false) (h11:S11 g=false) (h12:S12 g=false):jcm F12 g vs h=jcm F3 g vs h :=
 (jbi h12).trans ((jbi h11).trans ((qol h9 h10).trans ((jbi h8).trans (qxt h4 h5 h6 h7))))
end
end Go.Proofs.Ytehhjbfmjdlcjaa.Ev
