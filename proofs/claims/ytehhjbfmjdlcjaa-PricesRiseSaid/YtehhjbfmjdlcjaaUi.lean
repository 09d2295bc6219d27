/- Is each value made where it is used? What the code tells. -/
import Derived.Test.YtehhjbfmjdlcjaaUe
import Derived.Test.YtehhjbfmjdlcjaaGT1
import Derived.Test.YtehhjbfmjdlcjaaGT3
import Derived.Test.YtehhjbfmjdlcjaaGT5
import Derived.Test.YtehhjbfmjdlcjaaGT7
namespace Go.Proofs.Ytehhjbfmjdlcjaa.Ev
open Go Go.RowKit Go.Proofs.Ytehhjbfmjdlcjaa.Ms
attribute [local go_sem] f0k f0p f0r decide_eq_true_eq decide_eq_false_iff_not f0e and_true true_and f0n f0o reduceCtorEq decide_true decide_false f03 f0y f0s f0i Option.some.injEq f0l not_true_eq_false not_false_eq_true Hp.next_push Hp.next_put f0v Int.reduceToNat Nat.reduceAdd Nat.reduceMul Nat.reduceEqDiff Int.reduceEq Int.reduceLT Int.reduceLE Int.reduceNeg Int.reduceAdd Int.reduceSub Int.reduceMul Int.reduceNe
attribute [local go_sem ↓] reduceIte
set_option linter.all false
set_option maxRecDepth 100000
set_option maxHeartbeats 2000000
variable {x0 x1 x2 x3 x4 x5 x6 x7 x8 x9 x10 x11 x12 x13 x14 x15 x16 x17 x18 x19 x20 x21 x22 x23 x24 x25 x26 x27 x28 x29 x30 x31 x32 x33:AV} {g:FuncId} {n:Int} {vs:List AV} {idom:List Int} {a v bB:Nat}
def S8 (f:FuncId):Bool:=Nat.beq f 59||(Nat.beq f 53||(Nat.beq f 34||(Nat.beq f 35||(Nat.beq f 37||Nat.beq f 25))))
noncomputable def F8:Fns:=PX S8 F7
theorem quq {A:Nat->Int}:Env Try.prog A tys F8:=jgs qt7
theorem no8 {f:FuncId} (h1:S1 f=false) (h2:Nat.beq f jf3.f=false) (h3:S3 f=false) (h4:S4 f=false) (h5:S5 f=false) (h6:S6 f=false) (h7:S7 f=false) (h8:S8 f=false) {h:Hp}:jdq F8 f vs h=none:=(jbi h8).trans (no7 h1 h2 h3 h4 h5 h6 h7)
def S9 (f:FuncId):Bool:=Nat.beq f 54
noncomputable def F9:Fns:=PX S9 F8
theorem qur {A:Nat->Int}:Env Try.prog A tys F9:=jgs quq
theorem no9 {f:FuncId} (h1:S1 f=false) (h2:Nat.beq f jf3.f=false) (h3:S3 f=false) (h4:S4 f=false) (h5:S5 f=false) (h6:S6 f=false) (h7:S7 f=false) (h8:S8 f=false) (h9:S9 f=false) {h:Hp}:jdq F9 f vs h=none:=(jbi h9).trans (no8 h1 h2 h3 h4 h5 h6 h7 h8)
theorem qk8 {h:Hp} {Q:AV->Hp->Prop} {b:Int} (hd:Dom idom a b):WC F8 59 [.s (jah jjl idom),vi a,vi b] h Q=Q (vb true) h :=
 jau (jbe rfl (by simp only [jav,ja1,ja7,jcc,ja2,ja8,ja5,jbl,ja9,jbh,if_true]) (qhm jeh hd))
def KP (idom:List Int) (p:Nat×Int) (k:Nat) (i:Nat):Prop:=(p.1=k/\p.2<(i:Int))∨(p.1≠k/\Dom idom p.1 k)
theorem j8x {h:Hp} (ok:Ok h) {k i:Nat} (hk:KP idom (a,n) k i):WC F8 54 [.s (jah jjl idom),.agg [si a,si n],.agg [si k,si i]] h (fun v h'=>∃ d,jhd true h' d v=some (vb true)):=by
 refine jbf (no8 rfl rfl rfl rfl rfl rfl rfl rfl) qhk rfl ?_
 unfold j2e
 obtain ⟨hA,eA,okA,nA,xA,gA⟩:=jfh ok [si a,si n] 117
 obtain ⟨hB,eB,okB,nB,xB,gB⟩:=jfh okA [si k,si i] 117
 have yA:=(gB _ (by omega)).trans xA
 rw [nA] at xB
 rcases hk with ⟨h1,h2⟩ | ⟨h1,h2⟩
 ·simp only at h1 h2
  have c1:((a:Int)=(k:Int))=True:=by simp;omega
  have c2:(n<(i:Int))=True:=eq_true h2
  simp (disch:=first|omega|rfl|apply_rules[jaa,jac,jad]) only [go_sem,eA,nA,eB,yA,xB,c1,c2]
  exact ⟨1,rfl⟩
 ·simp only at h1 h2
  have c1:((a:Int)=(k:Int))=False:=by simp;omega
  simp (disch:=first|omega|rfl|apply_rules[jaa,jac,jad]) only [go_sem,eA,nA,eB,yA,xB,c1]
  unfold jxb
  simp (disch:=first|omega|rfl|apply_rules[jaa,jac,jad]) only [go_sem,yA,xB,qk8 h2]
  exact ⟨1,rfl⟩
theorem jxj {h:Hp} {Q:AV->Hp->Prop} {k i:Nat} (hk:KP idom (a,n) k i):WC F9 54 [.s (jah jjl idom),.agg [si a,si n],.agg [si k,si i]] h Q=Q (vb true) h :=
 jau (jbe rfl (by simp only [jav,ja1,ja7,jcc,ja2,ja8,ja5,jbl,ja9,jbh,if_true]) (j8x jeh hk))
def KT (idom:List Int) (T:List (Nat×Int)) (v k i:Nat):Prop:=∃ p,T[v]?=some p/\KP idom p k i
theorem j8y {T:List (Nat×Int)} {l:List Ms.Opd} {k i:Nat} (hl:l.length<=10000) (hp:∀ o∈l,o.kind=1->KT idom T o.value k i) {Q:Ex->St->Prop} :
 ∀ (d j:Nat) (_:j+d=l.length) {hi:Hp} (_:Ok hi) {x14 x18 x20:AV}
  (hQ:∀ hj x14 x18 x20,Ok hj->hi.next<=hj.next->(∀ n,n<hi.next->hj.get n=hi.get n)->Q (.exit 4) (.mk [x0,.s (jah jjl idom),x2,x3,x4,x5,x6,x7,x8,x9,x10,x11,x12,x13,x14,vi i,vi k,.s (jah jir T),x18,.s (jah jbb l),x20,vi l.length,vi l.length,x23,x24,x25,x26,x27,x28,x29,x30,x31,x32,x33] hj)),
  W F9 jkl.loop (.mk [x0,.s (jah jjl idom),x2,x3,x4,x5,x6,x7,x8,x9,x10,x11,x12,x13,x14,vi i,vi k,.s (jah jir T),x18,.s (jah jbb l),x20,vi l.length,vi j,x23,x24,x25,x26,x27,x28,x29,x30,x31,x32,x33] hi) Q
 | 0,j,hd,hi,ok,x14,x18,x20,hQ=>by
  obtain rfl:j=l.length:=by omega
  rw [jam]
  unfold jkl
  simp (disch:=first|omega|rfl|apply_rules[jaa,jac,jad]) only [go_sem,f04]
  exact hQ hi _ _ _ ok (f0f _) (fun _ _=>rfl)
 | d+1,j,hd,hi,ok,x14,x18,x20,hQ=>by
  have hlt:(j:Int)<(l.length:Int):=by omega
  obtain ⟨o,hio⟩:∃ y,l[j]?=some y:=⟨_,f0b (by omega)⟩
  have ho:=hp o (f0c hio)
  have hix:=jaj (enc:=jbb) (size:=5) hio rfl
  have hs:(j:Int)+1=((j+1:Nat):Int):=by omega
  obtain ⟨hA,eA,okA,nA,xA,gA⟩:=jcl ok [.int .i64 0,.int .i64 0,.bool false,.int .i64 0,.int .i64 0] (jbb o) 48
  unfold jbb at xA eA
  rw [jam]
  unfold jkl jw5
  by_cases e:o.kind=1
  ·have c1:((o.kind:Int)=1)=True:=by simp;omega
   obtain ⟨⟨pb,pn⟩,h1,h2⟩:=ho e
   have hxs:=jaj (enc:=jir) (size:=2) h1 rfl
   simp (disch:=first|omega|rfl|apply_rules[jaa,jac,jad]) only [go_sem,jag,eq_true hlt,hix,jbb,eA,xA,c1,hxs,jir,jxj h2,hs]
   exact j8y hl hp d (j+1) (by omega) okA (fun hj x14 x18 x20 o n g=>hQ hj x14 x18 x20 o (by omega) (fun m hm=>(g m (by omega)).trans (gA m hm)))
  ·have c1:((o.kind:Int)=1)=False:=by simp;omega
   simp (disch:=first|omega|rfl|apply_rules[jaa,jac,jad]) only [go_sem,jag,eq_true hlt,hix,jbb,eA,xA,c1,hs]
   exact j8y hl hp d (j+1) (by omega) okA (fun hj x14 x18 x20 o n g=>hQ hj x14 x18 x20 o (by omega) (fun m hm=>(g m (by omega)).trans (gA m hm)))
theorem qd2 {T:List (Nat×Int)} {l:List Ms.Ins} {k:Nat} (hl:l.length<=10000) (hp:∀ (i:Nat) (x:Ms.Ins),l[i]?=some x->x.ops.length<=6/\∀ o∈x.ops,o.kind=1->KT idom T o.value k i) {Q:Ex->St->Prop} :
 ∀ (d j:Nat) (_:j+d=l.length) {hi:Hp} (_:Ok hi) {x14 x15 x18 x19 x20 x21 x22 x23 x25:AV}
  (hQ:∀ hj x14 x15 x18 x19 x20 x21 x22 x23 x25,Ok hj->hi.next<=hj.next->(∀ n,n<hi.next->hj.get n=hi.get n)->Q (.exit 2) (.mk [x0,.s (jah jjl idom),x2,x3,x4,x5,x6,x7,x8,x9,x10,x11,x12,x13,x14,x15,vi k,.s (jah jir T),x18,x19,x20,x21,x22,x23,.s (jah jdv l),x25,vi l.length,vi l.length,x28,x29,x30,x31,x32,x33] hj)),
  W F9 jkm.loop (.mk [x0,.s (jah jjl idom),x2,x3,x4,x5,x6,x7,x8,x9,x10,x11,x12,x13,x14,x15,vi k,.s (jah jir T),x18,x19,x20,x21,x22,x23,.s (jah jdv l),x25,vi l.length,vi j,x28,x29,x30,x31,x32,x33] hi) Q
 | 0,j,hd,hi,ok,x14,x15,x18,x19,x20,x21,x22,x23,x25,hQ=>by
  obtain rfl:j=l.length:=by omega
  rw [jam]
  unfold jkm
  simp (disch:=first|omega|rfl|apply_rules[jaa,jac,jad]) only [go_sem,f04]
  exact hQ hi _ _ _ _ _ _ _ _ _ ok (f0f _) (fun _ _=>rfl)
 | d+1,j,hd,hi,ok,x14,x15,x18,x19,x20,x21,x22,x23,x25,hQ=>by
  have hlt:(j:Int)<(l.length:Int):=by omega
  obtain ⟨x,hio⟩:∃ y,l[j]?=some y:=⟨_,f0b (by omega)⟩
  obtain ⟨hx1,hx2⟩:=hp j x hio
  have hix:=jaj (enc:=jdv) (size:=3) hio rfl
  have hs:(j:Int)+1=((j+1:Nat):Int):=by omega
  obtain ⟨hA,eA,okA,nA,xA,gA⟩:=jcl ok [.int .i64 0,.nilSlice,.nilSlice] (jdv x) 46
  have l1:=jak (enc:=jbb) (l:=x.ops)
  unfold jdv at xA eA
  rw [jam]
  unfold jkm jw6
  simp (disch:=first|omega|rfl|apply_rules[jaa,jac,jad]) only [go_sem,jag,eq_true hlt,hix,jdv,eA,xA,l1]
  refine j8y (by omega) hx2 x.ops.length 0 (by omega) okA (fun hj x14 x18 x20 o n g=>?_)
  simp (disch:=first|omega|rfl|apply_rules[jaa,jac,jad]) only [go_sem,jag,hs]
  exact qd2 hl hp d (j+1) (by omega) o (fun hk x14 x15 x18 x19 x20 x21 x22 x23 x25 o' n' g'=>hQ hk x14 x15 x18 x19 x20 x21 x22 x23 x25 o' (by omega) (fun m hm=>(g' m (by omega)).trans ((g m (by omega)).trans (gA m hm))))
theorem qd3 {T:List (Nat×Int)} {l:List Nat} {b:Blk} {k:Nat} (hl:l.length<=10000) (hp:∀ v∈l,KT idom T v k b.instrs.length) {Q:Ex->St->Prop} :
 ∀ (d j:Nat) (_:j+d=l.length) {hi:Hp} (_:Ok hi) (_:hi.get bB=some (.arr [jah jas b.params,jah jdv b.instrs,jah jgc b.edges] 42)) {x3 x4 x6:AV}
  (hQ:∀ x3 x4 x6,Q (.exit 8) (.mk [x0,.s (jah jjl idom),x2,x3,x4,.s (jah jas l),x6,vi l.length,vi l.length,x9,x10,x11,x12,x13,x14,x15,vi k,.s (jah jir T),x18,x19,x20,x21,x22,x23,x24,x25,x26,x27,.s (.ptr bB 0),x29,x30,x31,x32,x33] hi)),
  W F9 jkn.loop (.mk [x0,.s (jah jjl idom),x2,x3,x4,.s (jah jas l),x6,vi l.length,vi j,x9,x10,x11,x12,x13,x14,x15,vi k,.s (jah jir T),x18,x19,x20,x21,x22,x23,x24,x25,x26,x27,.s (.ptr bB 0),x29,x30,x31,x32,x33] hi) Q
 | 0,j,hd,hi,ok,xB,x3,x4,x6,hQ=>by
  obtain rfl:j=l.length:=by omega
  rw [jam]
  unfold jkn
  simp (disch:=first|omega|rfl|apply_rules[jaa,jac,jad]) only [go_sem,f04]
  exact hQ _ _ _
 | d+1,j,hd,hi,ok,xB,x3,x4,x6,hQ=>by
  have hlt:(j:Int)<(l.length:Int):=by omega
  obtain ⟨v,hio⟩:∃ y,l[j]?=some y:=⟨_,f0b (by omega)⟩
  obtain ⟨⟨pb,pn⟩,h1,h2⟩:=hp v (f0c hio)
  have hix:=jaj (enc:=jas) (size:=1) hio rfl
  have hxs:=jaj (enc:=jir) (size:=2) h1 rfl
  have hs:(j:Int)+1=((j+1:Nat):Int):=by omega
  have l1:=jak (enc:=jdv) (l:=b.instrs)
  rw [jam]
  unfold jkn jw8 jw7
  simp (disch:=first|omega|rfl|apply_rules[jaa,jac,jad]) only [go_sem,jag,eq_true hlt,hix,jas,hxs,jir,xB,l1,jxj h2,hs]
  exact qd3 hl hp d (j+1) (by omega) ok xB hQ
theorem qd4 {T:List (Nat×Int)} {l:List Ms.Edg} {b:Blk} {k:Nat} (hl:l.length<=10000) (hp:∀ e∈l,e.args.length<=10000/\∀ v∈e.args,KT idom T v k b.instrs.length) {Q:Ex->St->Prop} :
 ∀ (d j:Nat) (_:j+d=l.length) {hi:Hp} (_:Ok hi) (_:bB<hi.next) (_:hi.get bB=some (.arr [jah jas b.params,jah jdv b.instrs,jah jgc b.edges] 42)) {x3 x4 x5 x6 x7 x8 x9 x11:AV}
  (hQ:∀ hj x3 x4 x5 x6 x7 x8 x9 x11,Ok hj->hi.next<=hj.next->(∀ n,n<hi.next->hj.get n=hi.get n)->Q (.exit 6) (.mk [x0,.s (jah jjl idom),x2,x3,x4,x5,x6,x7,x8,x9,.s (jah jgc l),x11,vi l.length,vi l.length,x14,x15,vi k,.s (jah jir T),x18,x19,x20,x21,x22,x23,x24,x25,x26,x27,.s (.ptr bB 0),x29,x30,x31,x32,x33] hj)),
  W F9 jko.loop (.mk [x0,.s (jah jjl idom),x2,x3,x4,x5,x6,x7,x8,x9,.s (jah jgc l),x11,vi l.length,vi j,x14,x15,vi k,.s (jah jir T),x18,x19,x20,x21,x22,x23,x24,x25,x26,x27,.s (.ptr bB 0),x29,x30,x31,x32,x33] hi) Q
 | 0,j,hd,hi,ok,hb,xB,x3,x4,x5,x6,x7,x8,x9,x11,hQ=>by
  obtain rfl:j=l.length:=by omega
  rw [jam]
  unfold jko
  simp (disch:=first|omega|rfl|apply_rules[jaa,jac,jad]) only [go_sem,f04]
  exact hQ hi _ _ _ _ _ _ _ _ ok (f0f _) (fun _ _=>rfl)
 | d+1,j,hd,hi,ok,hb,xB,x3,x4,x5,x6,x7,x8,x9,x11,hQ=>by
  have hlt:(j:Int)<(l.length:Int):=by omega
  obtain ⟨e,hio⟩:∃ y,l[j]?=some y:=⟨_,f0b (by omega)⟩
  obtain ⟨he1,he2⟩:=hp e (f0c hio)
  have hix:=jaj (enc:=jgc) (size:=2) hio rfl
  have hs:(j:Int)+1=((j+1:Nat):Int):=by omega
  obtain ⟨hA,eA,okA,nA,xA,gA⟩:=jcl ok [.int .i64 0,.nilSlice] (jgc e) 56
  have yB:=(gA _ hb).trans xB
  have l1:=jak (enc:=jas) (l:=e.args)
  unfold jgc at xA eA
  rw [jam]
  unfold jko jw9
  simp (disch:=first|omega|rfl|apply_rules[jaa,jac,jad]) only [go_sem,jag,eq_true hlt,hix,jgc,eA,xA,l1]
  refine qd3 he1 he2 e.args.length 0 (by omega) okA yB (fun x3 x4 x6=>?_)
  simp (disch:=first|omega|rfl|apply_rules[jaa,jac,jad]) only [go_sem,jag,hs]
  exact qd4 hl hp d (j+1) (by omega) okA (by omega) yB (fun hk x3 x4 x5 x6 x7 x8 x9 x11 o' n' g'=>hQ hk x3 x4 x5 x6 x7 x8 x9 x11 o' (by omega) (fun m hm=>(g' m (by omega)).trans (gA m hm)))
structure UsOk (idom:List Int) (f:Fc):Prop where
 nb:f.blocks.length<=10000
 sz:∀ b∈f.blocks,b.instrs.length<=10000/\b.edges.length<=10000
 us:∀ (k i:Nat) (b:Blk) (x:Ms.Ins),f.blocks[k]?=some b->b.instrs[i]?=some x->x.ops.length<=6/\∀ o∈x.ops,o.kind=1->KT idom (jen f) o.value k i
 ed:∀ (k:Nat) (b:Blk) (e:Ms.Edg),f.blocks[k]?=some b->e∈b.edges->e.args.length<=10000/\∀ v∈e.args,KT idom (jen f) v k b.instrs.length
theorem qd5 {f:Fc} (u:UsOk idom f) {Q:Ex->St->Prop} :
 ∀ (d j:Nat) (_:j+d=f.blocks.length) {hi:Hp} (_:Ok hi) {x3 x4 x5 x6 x7 x8 x9 x10 x11 x12 x13 x14 x15 x16 x18 x19 x20 x21 x22 x23 x24 x25 x26 x27 x28 x30:AV}
  (hQ:∀ hj x3 x4 x5 x6 x7 x8 x9 x10 x11 x12 x13 x14 x15 x16 x18 x19 x20 x21 x22 x23 x24 x25 x26 x27 x28 x30,Q (.exit 0) (.mk [x0,.s (jah jjl idom),x2,x3,x4,x5,x6,x7,x8,x9,x10,x11,x12,x13,x14,x15,x16,.s (jah jir (jen f)),x18,x19,x20,x21,x22,x23,x24,x25,x26,x27,x28,.s (jah ja3 f.blocks),x30,vi f.blocks.length,vi f.blocks.length,x33] hj)),
  W F9 jkp.loop (.mk [x0,.s (jah jjl idom),x2,x3,x4,x5,x6,x7,x8,x9,x10,x11,x12,x13,x14,x15,x16,.s (jah jir (jen f)),x18,x19,x20,x21,x22,x23,x24,x25,x26,x27,x28,.s (jah ja3 f.blocks),x30,vi f.blocks.length,vi j,x33] hi) Q
 | 0,j,hd,hi,ok,x3,x4,x5,x6,x7,x8,x9,x10,x11,x12,x13,x14,x15,x16,x18,x19,x20,x21,x22,x23,x24,x25,x26,x27,x28,x30,hQ=>by
  obtain rfl:j=f.blocks.length:=by omega
  rw [jam]
  unfold jkp
  simp (disch:=first|omega|rfl|apply_rules[jaa,jac,jad]) only [go_sem,f04]
  exact hQ hi ..
 | d+1,j,hd,hi,ok,x3,x4,x5,x6,x7,x8,x9,x10,x11,x12,x13,x14,x15,x16,x18,x19,x20,x21,x22,x23,x24,x25,x26,x27,x28,x30,hQ=>by
  have nb:=u.nb
  have hlt:(j:Int)<(f.blocks.length:Int):=by omega
  obtain ⟨b,hio⟩:∃ y,f.blocks[j]?=some y:=⟨_,f0b (by omega)⟩
  obtain ⟨s1,s2⟩:=u.sz b (f0c hio)
  have hix:=jaj (enc:=ja3) (size:=3) hio rfl
  have hs:(j:Int)+1=((j+1:Nat):Int):=by omega
  obtain ⟨hA,eA,okA,nA,xA,gA⟩:=jcl ok [.nilSlice,.nilSlice,.nilSlice] (ja3 b) 42
  have l1:=jak (enc:=jdv) (l:=b.instrs)
  have l2:=jak (enc:=jgc) (l:=b.edges)
  unfold ja3 at xA eA
  rw [jam]
  unfold jkp jxa
  simp (disch:=first|omega|rfl|apply_rules[jaa,jac,jad]) only [go_sem,jag,eq_true hlt,hix,ja3,eA,xA,l1]
  refine qd2 s1 (fun i x hx=>u.us j i b x hio hx) b.instrs.length 0 (by omega) okA (fun hj x14 x15 x18 x19 x20 x21 x22 x23 x25 o n g=>?_)
  have yA:=(g _ (by omega)).trans xA
  simp (disch:=first|omega|rfl|apply_rules[jaa,jac,jad]) only [go_sem,yA,l2]
  refine qd4 s2 (fun e he=>u.ed j b e hio he) b.edges.length 0 (by omega) o (by omega) yA (fun hk x3 x4 x5 x6 x7 x8 x9 x11 o' n' g'=>?_)
  simp (disch:=first|omega|rfl|apply_rules[jaa,jac,jad]) only [go_sem,jag,hs]
  exact qd5 u d (j+1) (by omega) o' hQ
theorem qk9 {h:Hp} {Q:AV->Hp->Prop} {f:Fc} (hl:f.blocks.length<=10000) (hv:f.values.length<=10000) (hne:f.values≠[]) (hp:∀ b∈f.blocks,b.params.length<=10000/\b.instrs.length<=10000/\(∀ v∈b.params,v<f.values.length)/\∀ x∈b.instrs,x.ops.length<=6/\∀ o∈x.ops,o.value<f.values.length) :
 WC F9 53 [.agg [jah jas f.values,jah ja3 f.blocks]] h Q=Q (.s (jah jir (jen f))) h :=
 jau ((jbi rfl).trans (jbe rfl (by simp only [jav,ja1,ja7,jcc,ja2,ja8,ja5,jbl,ja9,jbh,if_true]) (qhn jeh hl hv hne hp)))
theorem qla {h:Hp} (ok:Ok h) {f:Fc} (u:UsOk idom f) (hv:f.values.length<=10000) (hne:f.values≠[]) (hp:∀ b∈f.blocks,b.params.length<=10000/\b.instrs.length<=10000/\(∀ v∈b.params,v<f.values.length)/\∀ x∈b.instrs,x.ops.length<=6/\∀ o∈x.ops,o.value<f.values.length) :
 WC F9 36 [.agg [jah jas f.values,jah ja3 f.blocks],.s (jah jjl idom)] h (fun v h'=>∃ d,jhd true h' d v=some (vb true)):=by
 refine jbf (no9 rfl rfl rfl rfl rfl rfl rfl rfl rfl) qhj rfl ?_
 unfold j2d
 obtain ⟨hA,eA,okA,nA,xA,gA⟩:=jfh ok [jah jas f.values,jah ja3 f.blocks] 30
 have l2:=jak (enc:=ja3) (l:=f.blocks)
 simp (disch:=first|omega|rfl|apply_rules[jaa,jac,jad]) only [go_sem,eA,xA,qk9 u.nb hv hne hp,l2]
 refine qd5 u f.blocks.length 0 (by omega) okA (fun hj x3 x4 x5 x6 x7 x8 x9 x10 x11 x12 x13 x14 x15 x16 x18 x19 x20 x21 x22 x23 x24 x25 x26 x27 x28 x30=>?_)
 simp (disch:=first|omega|rfl|apply_rules[jaa,jac,jad]) only [go_sem]
 exact ⟨1,rfl⟩
theorem qso:∀ (s:List Bool),s.length<=5->oG s
 | [],_=>o_
 | [false],_=>o_f
 | [true],_=>o_t
 | [false,false],_=>qul
 | [false,true],_=>quh
 | [true,false],_=>qt9
 | [true,true],_=>qud
 | [false,false,false],_=>qsk
 | [false,false,true],_=>qsg
 | [false,true,false],_=>qrw
 | [false,true,true],_=>qrs
 | [true,false,false],_=>qr8
 | [true,false,true],_=>qsc
 | [true,true,false],_=>qr0
 | [true,true,true],_=>qr4
 | [false,false,false,false],_=>qpg
 | [false,false,false,true],_=>qo4
 | [false,false,true,false],_=>qoc
 | [false,false,true,true],_=>qos
 | [false,true,false,false],_=>qok
 | [false,true,false,true],_=>qo0
 | [false,true,true,false],_=>qn0
 | [false,true,true,true],_=>qn8
 | [true,false,false,false],_=>qn4
 | [true,false,false,true],_=>qnw
 | [true,false,true,false],_=>qpk
 | [true,false,true,true],_=>qog
 | [true,true,false,false],_=>qpc
 | [true,true,false,true],_=>qoo
 | [true,true,true,false],_=>qow
 | [true,true,true,true],_=>qo8
 | [false,false,false,false,false],_=>qjg
 | [false,false,false,false,true],_=>qh0
 | [false,false,false,true,false],_=>qk4
 | [false,false,false,true,true],_=>qkw
 | [false,false,true,false,false],_=>qkk
 | [false,false,true,false,true],_=>qic
 | [false,false,true,true,false],_=>qis
 | [false,false,true,true,true],_=>qj8
 | [false,true,false,false,false],_=>qiw
 | [false,true,false,false,true],_=>qi8
 | [false,true,false,true,false],_=>qjs
 | [false,true,false,true,true],_=>qko
 | [false,true,true,false,false],_=>qj4
 | [false,true,true,false,true],_=>qkc
 | [false,true,true,true,false],_=>qks
 | [false,true,true,true,true],_=>qh4
 | [true,false,false,false,false],_=>qjc
 | [true,false,false,false,true],_=>qhw
 | [true,false,false,true,false],_=>qk0
 | [true,false,false,true,true],_=>qh8
 | [true,false,true,false,false],_=>qkg
 | [true,false,true,false,true],_=>qio
 | [true,false,true,true,false],_=>qi4
 | [true,false,true,true,true],_=>qik
 | [true,true,false,false,false],_=>qig
 | [true,true,false,false,true],_=>qjo
 | [true,true,false,true,false],_=>qj0
 | [true,true,false,true,true],_=>qi0
 | [true,true,true,false,false],_=>qhs
 | [true,true,true,false,true],_=>qjk
 | [true,true,true,true,false],_=>qjw
 | [true,true,true,true,true],_=>qho
 | _::_::_::_::_::_::_,h=>absurd h (by simp)
theorem qsp:∀ (s:List Bool),s.length<=5->nG s
 | [],_=>n_
 | [false],_=>n_f
 | [true],_=>n_t
 | [false,false],_=>qum
 | [false,true],_=>qui
 | [true,false],_=>qua
 | [true,true],_=>que
 | [false,false,false],_=>qsl
 | [false,false,true],_=>qsh
 | [false,true,false],_=>qrx
 | [false,true,true],_=>qrt
 | [true,false,false],_=>qr9
 | [true,false,true],_=>qsd
 | [true,true,false],_=>qr1
 | [true,true,true],_=>qr5
 | [false,false,false,false],_=>qph
 | [false,false,false,true],_=>qo5
 | [false,false,true,false],_=>qod
 | [false,false,true,true],_=>qot
 | [false,true,false,false],_=>qol
 | [false,true,false,true],_=>qo1
 | [false,true,true,false],_=>qn1
 | [false,true,true,true],_=>qn9
 | [true,false,false,false],_=>qn5
 | [true,false,false,true],_=>qnx
 | [true,false,true,false],_=>qpl
 | [true,false,true,true],_=>qoh
 | [true,true,false,false],_=>qpd
 | [true,true,false,true],_=>qop
 | [true,true,true,false],_=>qox
 | [true,true,true,true],_=>qo9
 | [false,false,false,false,false],_=>qjh
 | [false,false,false,false,true],_=>qh1
 | [false,false,false,true,false],_=>qk5
 | [false,false,false,true,true],_=>qkx
 | [false,false,true,false,false],_=>qkl
 | [false,false,true,false,true],_=>qid
 | [false,false,true,true,false],_=>qit
 | [false,false,true,true,true],_=>qj9
 | [false,true,false,false,false],_=>qix
 | [false,true,false,false,true],_=>qi9
 | [false,true,false,true,false],_=>qjt
 | [false,true,false,true,true],_=>qkp
 | [false,true,true,false,false],_=>qj5
 | [false,true,true,false,true],_=>qkd
 | [false,true,true,true,false],_=>qkt
 | [false,true,true,true,true],_=>qh5
 | [true,false,false,false,false],_=>qjd
 | [true,false,false,false,true],_=>qhx
 | [true,false,false,true,false],_=>qk1
 | [true,false,false,true,true],_=>qh9
 | [true,false,true,false,false],_=>qkh
 | [true,false,true,false,true],_=>qip
 | [true,false,true,true,false],_=>qi5
 | [true,false,true,true,true],_=>qil
 | [true,true,false,false,false],_=>qih
 | [true,true,false,false,true],_=>qjp
 | [true,true,false,true,false],_=>qj1
 | [true,true,false,true,true],_=>qi1
 | [true,true,true,false,false],_=>qht
 | [true,true,true,false,true],_=>qjl
 | [true,true,true,true,false],_=>qjx
 | [true,true,true,true,true],_=>qhp
 | _::_::_::_::_::_::_,h=>absurd h (by simp)
theorem qsq:∀ (s:List Bool),s.length<=5->iG s
 | [],_=>i_
 | [false],_=>i_f
 | [true],_=>i_t
 | [false,false],_=>qun
 | [false,true],_=>quj
 | [true,false],_=>qub
 | [true,true],_=>quf
 | [false,false,false],_=>qsm
 | [false,false,true],_=>qsi
 | [false,true,false],_=>qry
 | [false,true,true],_=>qru
 | [true,false,false],_=>qsa
 | [true,false,true],_=>qse
 | [true,true,false],_=>qr2
 | [true,true,true],_=>qr6
 | [false,false,false,false],_=>qpi
 | [false,false,false,true],_=>qo6
 | [false,false,true,false],_=>qoe
 | [false,false,true,true],_=>qou
 | [false,true,false,false],_=>qom
 | [false,true,false,true],_=>qo2
 | [false,true,true,false],_=>qn2
 | [false,true,true,true],_=>qoa
 | [true,false,false,false],_=>qn6
 | [true,false,false,true],_=>qny
 | [true,false,true,false],_=>qpm
 | [true,false,true,true],_=>qoi
 | [true,true,false,false],_=>qpe
 | [true,true,false,true],_=>qoq
 | [true,true,true,false],_=>qoy
 | [true,true,true,true],_=>qpa
 | [false,false,false,false,false],_=>qji
 | [false,false,false,false,true],_=>qh2
 | [false,false,false,true,false],_=>qk6
 | [false,false,false,true,true],_=>qky
 | [false,false,true,false,false],_=>qkm
 | [false,false,true,false,true],_=>qie
 | [false,false,true,true,false],_=>qiu
 | [false,false,true,true,true],_=>qka
 | [false,true,false,false,false],_=>qiy
 | [false,true,false,false,true],_=>qja
 | [false,true,false,true,false],_=>qju
 | [false,true,false,true,true],_=>qkq
 | [false,true,true,false,false],_=>qj6
 | [false,true,true,false,true],_=>qke
 | [false,true,true,true,false],_=>qku
 | [false,true,true,true,true],_=>qh6
 | [true,false,false,false,false],_=>qje
 | [true,false,false,false,true],_=>qhy
 | [true,false,false,true,false],_=>qk2
 | [true,false,false,true,true],_=>qia
 | [true,false,true,false,false],_=>qki
 | [true,false,true,false,true],_=>qiq
 | [true,false,true,true,false],_=>qi6
 | [true,false,true,true,true],_=>qim
 | [true,true,false,false,false],_=>qii
 | [true,true,false,false,true],_=>qjq
 | [true,true,false,true,false],_=>qj2
 | [true,true,false,true,true],_=>qi2
 | [true,true,true,false,false],_=>qhu
 | [true,true,true,false,true],_=>qjm
 | [true,true,true,true,false],_=>qjy
 | [true,true,true,true,true],_=>qhq
 | _::_::_::_::_::_::_,h=>absurd h (by simp)
theorem qsr:∀ (s:List Bool),s.length<=5->tG s
 | [],_=>t_
 | [false],_=>t_f
 | [true],_=>t_t
 | [false,false],_=>qup
 | [false,true],_=>quk
 | [true,false],_=>quc
 | [true,true],_=>qug
 | [false,false,false],_=>qsn
 | [false,false,true],_=>qsj
 | [false,true,false],_=>qrz
 | [false,true,true],_=>qrv
 | [true,false,false],_=>qsb
 | [true,false,true],_=>qsf
 | [true,true,false],_=>qr3
 | [true,true,true],_=>qr7
 | [false,false,false,false],_=>qpj
 | [false,false,false,true],_=>qo7
 | [false,false,true,false],_=>qof
 | [false,false,true,true],_=>qov
 | [false,true,false,false],_=>qon
 | [false,true,false,true],_=>qo3
 | [false,true,true,false],_=>qn3
 | [false,true,true,true],_=>qob
 | [true,false,false,false],_=>qn7
 | [true,false,false,true],_=>qnz
 | [true,false,true,false],_=>qpn
 | [true,false,true,true],_=>qoj
 | [true,true,false,false],_=>qpf
 | [true,true,false,true],_=>qor
 | [true,true,true,false],_=>qoz
 | [true,true,true,true],_=>qpb
 | [false,false,false,false,false],_=>qjj
 | [false,false,false,false,true],_=>qh3
 | [false,false,false,true,false],_=>qk7
 | [false,false,false,true,true],_=>qkz
 | [false,false,true,false,false],_=>qkn
 | [false,false,true,false,true],_=>qif
 | [false,false,true,true,false],_=>qiv
 | [false,false,true,true,true],_=>qkb
 | [false,true,false,false,false],_=>qiz
 | [false,true,false,false,true],_=>qjb
 | [false,true,false,true,false],_=>qjv
 | [false,true,false,true,true],_=>qkr
 | [false,true,true,false,false],_=>qj7
 | [false,true,true,false,true],_=>qkf
 | [false,true,true,true,false],_=>qkv
 | [false,true,true,true,true],_=>qh7
 | [true,false,false,false,false],_=>qjf
 | [true,false,false,false,true],_=>qhz
 | [true,false,false,true,false],_=>qk3
 | [true,false,false,true,true],_=>qib
 | [true,false,true,false,false],_=>qkj
 | [true,false,true,false,true],_=>qir
 | [true,false,true,true,false],_=>qi7
 | [true,false,true,true,true],_=>qin
 | [true,true,false,false,false],_=>qij
 | [true,true,false,false,true],_=>qjr
 | [true,true,false,true,false],_=>qj3
 | [true,true,false,true,true],_=>qi3
 | [true,true,true,false,false],_=>qhv
 | [true,true,true,false,true],_=>qjn
 | [true,true,true,true,false],_=>qjz
 | [true,true,true,true,true],_=>qhr
 | _::_::_::_::_::_::_,h=>absurd h (by simp)
theorem jz1 {α β:Type} (g:α->β):∀ (l:List α),(l.map (fun v=>(v,g v))).map (·.1)=l
 | []=>rfl
 | a::l=>congrArg (a::·) (jz1 g l)
theorem qbt (b i:Nat) (ops:List Ms.Opd):(evO b i ops).map (·.1)=dfO ops:=jz1 _ _
theorem j2g (b:Nat):∀ (l:List Ms.Ins) (i:Nat),(evI b i l).map (·.1)=(l.map jc5).flatten
 | [],i=>rfl
 | x::l,i=>by
  unfold evI
  rw [List.map_append,qbt,j2g b l]
  rfl
theorem juw:∀ (l:List Blk) (k:Nat),(evL k l).map (·.1)=jc9 l
 | [],k=>rfl
 | b::l,k=>by
  unfold evL evB evP
  rw [List.map_append,List.map_append,j2g,juw l,jz1]
  simp [jc9,jql]
theorem j8z {b:Nat} {y:Ms.Ins} (hv:v∈jc5 y):∀ {l:List Ms.Ins} {i j:Nat},l[i]?=some y->(v,(b,((j+i:Nat):Int)))∈evI b j l
 | [],i,j,h=>by simp at h
 | x::l,0,j,h=>by
  simp only [f1h,Option.some.injEq] at h
  subst h
  unfold evI
  exact f1k _ (f10.2 ⟨v,hv,rfl⟩)
 | x::l,i+1,j,h=>by
  simp only [f2o] at h
  unfold evI
  have:=j8z (b:=b) hv (j:=j+1) h
  rw [show j+1+i=j+(i+1) by omega] at this
  exact f09 _ this
theorem j80 {b:Nat}:∀ {l:List Blk} {k:Nat} {i:Nat},b=k+i->jzz l v i n->(v,(b,n))∈evL k l
 | [],k,i,e,h=>by
  obtain ⟨x,h1,_⟩:=h
  simp at h1
 | x::l,k,0,e,h=>by
  obtain ⟨y,h1,h2⟩:=h
  simp only [f1h,Option.some.injEq] at h1
  subst h1
  rw [f0s] at e
  subst e
  unfold evL evB
  refine f1k _ ?_
  rcases h2 with ⟨rfl,h2⟩ | ⟨i,y,rfl,h2,h3⟩
  ·exact f1k _ (f10.2 ⟨v,h2,rfl⟩)
  ·have:=j8z (b:=b) h3 (j:=0) h2
   rw [f0i] at this
   exact f09 _ this
 | x::l,k,i+1,e,h=>by
  unfold evL
  refine f09 _ (j80 (i:=i) (by omega) ?_)
  obtain ⟨y,h1,h2⟩:=h
  exact ⟨y,by simpa using h1,h2⟩
theorem j81:∀ (l:List (Nat×(Nat×Int))) (T:List (Nat×Int)),v∉l.map (·.1)->(spF T l)[v]?=T[v]?
 | [],T,_=>rfl
 | e::l,T,h=>by
  simp only [List.map_cons,f0j,not_or] at h
  show (spF (T.set e.1 e.2) l)[v]?=_
  rw [j81 l _ h.2,f1u (fun x=>h.1 x.symm)]
theorem j82 {p:Nat×Int}:∀ (l:List (Nat×(Nat×Int))) (T:List (Nat×Int)),(l.map (·.1)).Nodup->v<T.length->(v,p)∈l->(spF T l)[v]?=some p
 | [],T,_,_,h=>by cases h
 | e::l,T,hd,hv,h=>by
  rw [List.map_cons,f06] at hd
  show (spF (T.set e.1 e.2) l)[v]?=_
  rcases f0j.1 h with rfl | h
  ·rw [j81 l _ hd.1,List.getElem?_set_self hv]
  ·exact j82 l _ hd.2 (by rw [f3a];exact hv) h
theorem qbu {f:Fc} (hm:(jc9 f.blocks).Perm (List.range f.values.length)) {b:Nat} (h:jzz f.blocks v b n):(jen f)[v]?=some (b,n):=by
 have hmem:=j80 (k:=0) (i:=b) (f0i b).symm h
 have hk:v∈jc9 f.blocks:=by rw [←juw f.blocks 0];exact f10.2 ⟨_,hmem,rfl⟩
 have hv:v<f.values.length:=List.mem_range.1 (hm.mem_iff.1 hk)
 unfold jen
 exact j82 _ _ (by rw [juw];exact hm.nodup_iff.2 List.nodup_range) (by rw [f2y];exact hv) hmem
theorem jur.kt {f:Fc} (hm:(jc9 f.blocks).Perm (List.range f.values.length)) {k i:Nat} (h:jur idom f.blocks v k i):KT idom (jen f) v k i:=by
 obtain ⟨b,n,h1,h2⟩:=h
 exact ⟨(b,n),qbu hm h1,h2⟩
def gPs (l:List Blk) (k:Nat):SV:=jah jas (l.getD k jg9).params
def gIs (l:List Blk) (k:Nat):SV:=jah jdv (l.getD k jg9).instrs
def gAs (l:List Blk) (k j:Nat):SV:=jah jas ((l.getD k jg9).edges.getD j ⟨0,[]⟩).args
theorem j83 (a:Nat->SV):∀ (r p:List Ms.Edg),(∀ j,a j=jah jas ((p++r).getD j ⟨0,[]⟩).args)->qqb a p.length (r.map (·.block))=r.map jgc
 | [],p,h=>rfl
 | e::r,p,h=>by
  show [si e.block,a p.length]::qqb a (p.length+1) (r.map (·.block))=jgc e::r.map jgc
  have h1:a p.length=jah jas e.args:=by
   rw [h,f0d,f02 (f0f _)];simp
  have h2:=j83 a r (p++[e]) (fun j=>by rw [h];simp)
  rw [f1a] at h2
  rw [h1]
  exact congrArg _ h2
theorem qlb (a:Nat->SV) (l:List Ms.Edg) (h:∀ j,a j=jah jas (l.getD j ⟨0,[]⟩).args):qqc a (l.map (·.block))=jah jgc l:=by
 cases l with
 | nil=>rfl
 | cons e r =>
  have:=j83 a (e::r) [] (by simpa using h)
  exact congrArg SV.lst this
theorem j2h (l:List Blk):∀ (r p:List Blk),p++r=l->j8j (gPs l) (gIs l) (gAs l) p.length (grL r)=r.map ja3
 | [],p,h=>rfl
 | b::r,p,h=>by
  have hb:l.getD p.length jg9=b:=by rw [←h,f0d,f02 (f0f _)];simp
  show [gPs l p.length,gIs l p.length,qqc (gAs l p.length) (qdt b)]::j8j (gPs l) (gIs l) (gAs l) (p.length+1) (grL r)=ja3 b::r.map ja3
  have h1:qqc (gAs l p.length) (qdt b)=jah jgc b.edges:=qlb _ _ (fun j=>by unfold gAs;rw [hb])
  have h2:=j2h l r (p++[b]) (by rw [←h];simp)
  rw [f1a] at h2
  rw [h1]
  unfold gPs gIs
  rw [hb]
  exact congrArg _ h2
theorem jux {f:Fc} (hne:f.blocks≠[]):[jah jas f.values,jah ja3 f.blocks]=qqd (grL f.blocks) (jah jas f.values) (gPs f.blocks) (gIs f.blocks) (gAs f.blocks):=by
 have h:=j2h f.blocks f.blocks [] rfl
 unfold qqd
 rw [show j8j (gPs f.blocks) (gIs f.blocks) (gAs f.blocks) 0 (grL f.blocks)=f.blocks.map ja3 from h]
 cases e:f.blocks with
 | nil=>exact absurd e hne
 | cons b r=>rfl
section
variable {f:Fc} {s:List Bool} {h:Hp} {Q:AV->Hp->Prop}
theorem qbv (hs:s.length<=5) (hg:grL f.blocks=gS s) (hne:f.blocks≠[]):jdq F8 34 [.agg [jah jas f.values,jah ja3 f.blocks]] h=some (.s (jah jas (jqn s 0)),h) :=
 jbe rfl (by simp only [jav,ja1,ja7,jcc,ja2,ja8,ja5,jbl,ja9,jbh,if_true]) (by rw [jux hne,hg];exact jkj (qso s hs _ _ _ _))
theorem qlc (hs:s.length<=5) (hg:grL f.blocks=gS s) (hne:f.blocks≠[]):jdq F8 35 [.agg [jah jas f.values,jah ja3 f.blocks]] h=some (.s (jah juq (jqo (gS s))),h) :=
 jbe rfl (by simp only [jav,ja1,ja7,jcc,ja2,ja8,ja5,jbl,ja9,jbh,if_true]) (by rw [jux hne,hg];exact jkj (qsp s hs _ _ _ _))
theorem qbw (hs:s.length<=5) (hg:grL f.blocks=gS s) (hne:f.blocks≠[]):jdq F8 37 [.agg [jah jas f.values,jah ja3 f.blocks],.s (jah jas (jqn s 0))] h=some (.s (jah jjl (jem s)),h) :=
 jbe rfl (by simp only [jav,ja1,ja7,jcc,ja2,ja8,ja5,jbl,ja9,jbh,if_true]) (by rw [jux hne,hg];exact jkj (qsq s hs _ _ _ _))
theorem qld (hs:s.length<=5) (hg:grL f.blocks=gS s) (hne:f.blocks≠[]):jdq F8 25 [.agg [jah jas f.values,jah ja3 f.blocks]] h=some (.agg (jzx (jqn s 0) (jem s) (jku s)),h) :=
 jbe rfl (by simp only [jav,ja1,ja7,jcc,ja2,ja8,ja5,jbl,ja9,jbh,if_true]) (by rw [jux hne,hg];exact jkj (qsr s hs _ _ _ _))
end
def shp:Nat->List (List Bool)
 | 0=>[[]]
 | n+1=>[]::((shp n).map (false::·)++(shp n).map (true::·))
theorem j84:∀ (n:Nat) (s:List Bool),s.length<=n->s∈shp n
 | 0,s,h=>by
  have:=f1n (Nat.le_zero.1 h)
  subst this;exact f0z.2 rfl
 | n+1,[],h=>by unfold shp;simp
 | n+1,b::s,h=>by
  have:=j84 n s (by simpa using h)
  unfold shp
  refine f1c _ (f0g.2 ?_)
  cases b
  ·exact .inl (f10.2 ⟨s,this,rfl⟩)
  ·exact .inr (f10.2 ⟨s,this,rfl⟩)
theorem j85 {P:List Bool->Bool} (h:(shp 5).all P=true) {s:List Bool} (hs:s.length<=5):P s=true:=f25.1 h s (j84 5 s hs)
def qtg (g:List (List Nat)):Bool:=g.all (fun es=>es.length<=1||es.all (fun t=>((jqo g).getD t [0,0]).length<=1))
theorem qbx:(shp 5).all (fun s=>qtg (gS s))=true:=by kernel_rfl
theorem juy:∀ (s:List Bool) (c:Nat),(jqn s c).length=1+3*s.length
 | [],c=>rfl
 | false::s,c=>by simp [jqn,juy s];omega
 | true::s,c=>by simp [jqn,juy s];omega
structure FlOk (m:Nat×Nat) (f:Fc) (s:List Bool):Prop where
 k:FcOk m f
 on:jp3 f=0
 hs:s.length<=5
 hg:grL f.blocks=gS s
 hv:f.values≠[]
 us:UsOk (jem s) f
theorem FlOk.hne {m:Nat×Nat} {f:Fc} {s:List Bool} (o:FlOk m f s):f.blocks≠[]:=f11.1 (by have:=o.k.nb;omega)
theorem FlOk.len {m:Nat×Nat} {f:Fc} {s:List Bool} (o:FlOk m f s):f.blocks.length=1+3*s.length:=by rw [←jd9,o.hg,j8l]
theorem qle {m:Nat×Nat} (m1:2<=m.1/\m.1<=10) (m2:2<=m.2/\m.2<=10) (l:List Pc):∃ s,FlOk m (jfm m l) s/\(jc9 (jfm m l).blocks).Perm (List.range (jfm m l).values.length) /\
 (∀ (k i:Nat) (b:Blk) (x:Ms.Ins) (o:Ms.Opd),(jfm m l).blocks[k]?=some b->b.instrs[i]?=some x->o∈x.ops->o.kind=1->jur (jem s) (jfm m l).blocks o.value k i):=by
 obtain ⟨k,kp,_⟩:=j1o m1 m2 l
 obtain ⟨s,h1,h2,h3,h4⟩:=j3t m1 m2 l
 have hv:(jfm m l).values≠[]:=by
  obtain ⟨b,g,c,n,_⟩:=((jkh m1 m2).pieces (l.take 24)).bd.lay ⟨0,0,1,0,0,0,3⟩
  obtain ⟨_,_,_,_,_,_,_,_,cs,e1,e2,_⟩:=qgk ((jkh m1 m2).pieces (l.take 24)).v ⟨0,0,1,0,0,0,3⟩
  have:(jfm m l).values=(jcn ((l.take 24).foldl jbt (jbr m)) ⟨0,0,1,0,0,0,3⟩).values:=rfl
  rw [this,e2]
  rcases e1 with rfl | rfl<;>simp
 refine ⟨s,⟨k,qbo kp,h1,h2,hv,⟨by have:=k.nb;omega,fun b hb=>by have:=k.blk b hb;omega,fun a i b x hb hx=>⟨(k.ins b (f0c hb) x (f0c hx)).nops,fun o ho hk=>jur.kt kp (h3 a i b x o hb hx ho hk)⟩,fun a b e hb he=>⟨?_,fun v hv=>jur.kt kp (h4 a b e v hb he hv)⟩⟩⟩,kp,h3⟩
 obtain ⟨_,_,t,h5,h6,_⟩:=k.edg b (f0c hb) e he
 have h7:=(k.blk t (f0c h5)).1
 have:=congrArg List.length h6
 simp only [f1o] at this
 omega
def S10 (f:FuncId):Bool:=Nat.beq f 36
noncomputable def F10:Fns:=PX S10 F9
theorem qss {A:Nat->Int}:Env Try.prog A tys F10:=jgs qur
theorem qth {f:FuncId} (h1:S1 f=false) (h2:Nat.beq f jf3.f=false) (h3:S3 f=false) (h4:S4 f=false) (h5:S5 f=false) (h6:S6 f=false) (h7:S7 f=false) (h8:S8 f=false) (h9:S9 f=false) (h10:S10 f=false) {h:Hp}:jdq F10 f vs h=none:=(jbi h10).trans (no9 h1 h2 h3 h4 h5 h6 h7 h8 h9)
section
variable {h:Hp} {m:Nat×Nat} {f:Fc} {s:List Bool} {Q:AV->Hp->Prop}
theorem qls (h9:S9 g=false) (h10:S10 g=false):jdq F10 g vs h=jdq F8 g vs h:=(jbi h10).trans (jbi h9)
theorem qby (o:FlOk m f s) (m1:2<=m.1/\m.1<=10) (m2:2<=m.2/\m.2<=10):WC F10 33 [.agg [jah jas f.values,jah ja3 f.blocks],.agg [si m.1,si m.2]] h Q=Q (vi 0) h :=
 jau ((qls rfl rfl).trans ((jbi rfl).trans (by rw [qns o.k m1 m2,o.on];rfl)))
theorem jrv (o:FlOk m f s):WC F10 34 [.agg [jah jas f.values,jah ja3 f.blocks]] h Q=Q (.s (jah jas (jqn s 0))) h:=jau ((qls rfl rfl).trans (qbv o.hs o.hg o.hne))
theorem j86 (o:FlOk m f s):WC F10 35 [.agg [jah jas f.values,jah ja3 f.blocks]] h Q=Q (.s (jah juq (jqo (gS s)))) h:=jau ((qls rfl rfl).trans (qlc o.hs o.hg o.hne))
theorem j3u (o:FlOk m f s):WC F10 37 [.agg [jah jas f.values,jah ja3 f.blocks],.s (jah jas (jqn s 0))] h Q=Q (.s (jah jjl (jem s))) h:=jau ((qls rfl rfl).trans (qbw o.hs o.hg o.hne))
theorem qbz (o:FlOk m f s):WC F10 36 [.agg [jah jas f.values,jah ja3 f.blocks],.s (jah jjl (jem s))] h Q=Q (vb true) h :=
 jau (jbe rfl (by simp only [jav,ja1,ja7,jcc,ja2,ja8,ja5,jbl,ja9,jbh,if_true]) (qla jeh o.us (by have:=o.k.nv;omega) o.hv (j8g o.k)))
end
theorem FlOk.pred {m:Nat×Nat} {f:Fc} {s:List Bool} (o:FlOk m f s) {b:Blk} (hb:b∈f.blocks) (h:1<b.edges.length) {e:Ms.Edg} (he:e∈b.edges):∃ pl,(jqo (gS s))[e.block]?=some pl/\pl.length<=1:=by
 have h1:=j85 qbx o.hs
 unfold qtg at h1
 rw [f25] at h1
 have h2:=h1 (qdt b) (by rw [←o.hg];exact f10.2 ⟨b,hb,rfl⟩)
 simp only [f29,decide_eq_true_eq,f25] at h2
 have h3:=h2.resolve_left (by unfold qdt;rw [f1o];omega) e.block (f10.2 ⟨e,he,rfl⟩)
 rw [f0d] at h3
 cases hq:(jqo (gS s))[e.block]? with
 | none=>rw [hq] at h3;simp at h3
 | some pl=>rw [hq] at h3;exact ⟨pl,rfl,h3⟩
theorem j87 {m:Nat×Nat} {f:Fc} {s:List Bool} (o:FlOk m f s) {b:Blk} (hb:b∈f.blocks) {Q:Ex->St->Prop} :
 ∀ (d j:Nat) (_:j+d=b.edges.length) {hi:Hp} (_:Ok hi) (_:bB<hi.next) (_:hi.get bB=some (.arr [jah jas b.params,jah jdv b.instrs,jah jgc b.edges] 42)) {x4 x5 x8:AV}
  (hQ:∀ hj x4 x5 x8,Ok hj->hi.next<=hj.next->(∀ n,n<hi.next->hj.get n=hi.get n)->Q (.exit 2) (.mk [x0,x1,x2,x3,x4,x5,.s (jah juq (jqo (gS s))),.s (jah jgc b.edges),x8,vi b.edges.length,vi b.edges.length,.s (.ptr bB 0),x12,x13,x14,x15,x16,x17,x18,x19,x20] hj)),
  W F10 jkq.loop (.mk [x0,x1,x2,x3,x4,x5,.s (jah juq (jqo (gS s))),.s (jah jgc b.edges),x8,vi b.edges.length,vi j,.s (.ptr bB 0),x12,x13,x14,x15,x16,x17,x18,x19,x20] hi) Q
 | 0,j,hd,hi,ok,hB,xB,x4,x5,x8,hQ=>by
  obtain rfl:j=b.edges.length:=by omega
  rw [jam]
  unfold jkq
  simp (disch:=first|omega|rfl|apply_rules[jaa,jac,jad]) only [go_sem,f04]
  exact hQ hi _ _ _ ok (f0f _) (fun _ _=>rfl)
 | d+1,j,hd,hi,ok,hB,xB,x4,x5,x8,hQ=>by
  have hlt:(j:Int)<(b.edges.length:Int):=by omega
  have hne:=(o.k.blk b hb).2.2
  obtain ⟨e,hio⟩:∃ y,b.edges[j]?=some y:=⟨_,f0b (by omega)⟩
  have hix:=jaj (enc:=jgc) (size:=2) hio rfl
  have hs:(j:Int)+1=((j+1:Nat):Int):=by omega
  obtain ⟨hA,eA,okA,nA,xA,gA⟩:=jcl ok [.int .i64 0,.nilSlice] (jgc e) 56
  have yB:=(gA _ hB).trans xB
  have l2:=jak (enc:=jgc) (l:=b.edges)
  unfold jgc at xA eA
  rw [jam]
  unfold jkq jxd
  by_cases h1:1<b.edges.length
  ·have c1:(1<(b.edges.length:Int))=True:=by simp;omega
   obtain ⟨pl,h2,h3⟩:=o.pred hb h1 (f0c hio)
   have hxp:=jaj (enc:=juq) (size:=1) h2 rfl
   have l3:=jak (enc:=jas) (l:=pl)
   have c2:(1<(pl.length:Int))=False:=by simp;omega
   simp (disch:=first|omega|rfl|apply_rules[jaa,jac,jad]) only [go_sem,jag,eq_true hlt,hix,jgc,eA,xA,yB,l2,c1,hxp,juq,l3,c2,hs]
   exact j87 o hb d (j+1) (by omega) okA (by omega) yB (fun hj x4 x5 x8 ok' n g=>hQ hj x4 x5 x8 ok' (by omega) (fun q hq=>(g q (by omega)).trans (gA q hq)))
  ·have c1:(1<(b.edges.length:Int))=False:=by simp;omega
   simp (disch:=first|omega|rfl|apply_rules[jaa,jac,jad]) only [go_sem,jag,eq_true hlt,hix,jgc,eA,xA,yB,l2,c1,hs]
   exact j87 o hb d (j+1) (by omega) okA (by omega) yB (fun hj x4 x5 x8 ok' n g=>hQ hj x4 x5 x8 ok' (by omega) (fun q hq=>(g q (by omega)).trans (gA q hq)))
theorem qd6 {m:Nat×Nat} {f:Fc} {s:List Bool} (o:FlOk m f s) {bF:Nat} {Q:Ex->St->Prop} :
 ∀ (d j:Nat) (_:j+d=f.blocks.length) {hi:Hp} (_:Ok hi) (_:bF<hi.next) {x4 x5 x7 x8 x9 x10 x11 x13:AV}
  (hQ:∀ hj x4 x5 x7 x8 x9 x10 x11 x13,Ok hj->hi.next<=hj.next->hj.get bF=hi.get bF->Q (.exit 0) (.mk [x0,x1,x2,x3,x4,x5,.s (jah juq (jqo (gS s))),x7,x8,x9,x10,x11,.s (jah ja3 f.blocks),x13,vi f.blocks.length,vi f.blocks.length,x16,x17,x18,x19,.s (.ptr bF 0)] hj)),
  W F10 jkr.loop (.mk [x0,x1,x2,x3,x4,x5,.s (jah juq (jqo (gS s))),x7,x8,x9,x10,x11,.s (jah ja3 f.blocks),x13,vi f.blocks.length,vi j,x16,x17,x18,x19,.s (.ptr bF 0)] hi) Q
 | 0,j,hd,hi,ok,hB,x4,x5,x7,x8,x9,x10,x11,x13,hQ=>by
  obtain rfl:j=f.blocks.length:=by omega
  rw [jam]
  unfold jkr
  simp (disch:=first|omega|rfl|apply_rules[jaa,jac,jad]) only [go_sem,f04]
  exact hQ hi _ _ _ _ _ _ _ _ ok (f0f _) rfl
 | d+1,j,hd,hi,ok,hB,x4,x5,x7,x8,x9,x10,x11,x13,hQ=>by
  have nb:=o.k.nb
  have hlt:(j:Int)<(f.blocks.length:Int):=by omega
  obtain ⟨b,hio⟩:∃ y,f.blocks[j]?=some y:=⟨_,f0b (by omega)⟩
  have hbm:=f0c hio
  have hix:=jaj (enc:=ja3) (size:=3) hio rfl
  have hs:(j:Int)+1=((j+1:Nat):Int):=by omega
  obtain ⟨hA,eA,okA,nA,xA,gA⟩:=jcl ok [.nilSlice,.nilSlice,.nilSlice] (ja3 b) 42
  have l2:=jak (enc:=jgc) (l:=b.edges)
  unfold ja3 at xA eA
  rw [jam]
  unfold jkr jxe
  simp (disch:=first|omega|rfl|apply_rules[jaa,jac,jad]) only [go_sem,jag,eq_true hlt,hix,ja3,eA,xA,l2]
  refine j87 o hbm b.edges.length 0 (by omega) okA (by omega) xA (fun hj x4 x5 x8 ok' n g=>?_)
  simp (disch:=first|omega|rfl|apply_rules[jaa,jac,jad]) only [go_sem,jag,hs]
  exact qd6 o d (j+1) (by omega) ok' (by omega) (fun hk x4 x5 x7 x8 x9 x10 x11 x13 o' n' g'=>hQ hk x4 x5 x7 x8 x9 x10 x11 x13 o' (by omega) (g'.trans ((g _ (by omega)).trans (gA _ hB))))
theorem qlf {h:Hp} (ok:Ok h) {m:Nat×Nat} {f:Fc} {s:List Bool} (o:FlOk m f s) (m1:2<=m.1/\m.1<=10) (m2:2<=m.2/\m.2<=10):WC F10 24 [.agg [jah jas f.values,jah ja3 f.blocks],.agg [si m.1,si m.2]] h (fun v h'=>∃ d,jhd true h' d v=some (vi 0)):=by
 refine jbf (qth rfl rfl rfl rfl rfl rfl rfl rfl rfl rfl) qhl rfl ?_
 unfold j2f
 obtain ⟨hA,eA,okA,nA,xA,gA⟩:=jfh ok [jah jas f.values,jah ja3 f.blocks] 30
 obtain ⟨hB,eB,okB,nB,xB,gB⟩:=jfh okA [si m.1,si m.2] 25
 have yA:=(gB _ (by omega)).trans xA
 rw [nA] at xB
 have l2:=jak (enc:=ja3) (l:=f.blocks)
 have l3:=jak (enc:=jas) (l:=jqn s 0)
 have c1:(((jqn s 0).length:Int)<(f.blocks.length:Int))=False:=eq_false (by rw [juy,o.len];omega)
 have hh:(hB.next<=h.next/\h.next<hB.next)=False:=eq_false (by omega)
 simp (disch:=first|omega|rfl|apply_rules[jaa,jac,jad]) only [go_sem,eA,eB,nA,yA,xB,qby o m1 m2]
 unfold jxi jxc
 simp (disch:=first|omega|rfl|apply_rules[jaa,jac,jad]) only [go_sem,yA,xB,jrv o,l3,l2,c1,hh]
 unfold jxh
 simp (disch:=first|omega|rfl|apply_rules[jaa,jac,jad]) only [go_sem,yA,j86 o,l2]
 refine qd6 o f.blocks.length 0 (by omega) okB (by omega) (fun hj x4 x5 x7 x8 x9 x10 x11 x13 o' n g=>?_)
 have zA:=g.trans yA
 have hh:(hj.next<=h.next/\h.next<hj.next)=False:=eq_false (by omega)
 unfold jxf
 simp (disch:=first|omega|rfl|apply_rules[jaa,jac,jad]) only [go_sem,zA,jrv o,j3u o,qbz o,hh]
 unfold jxg
 simp (disch:=first|omega|rfl|apply_rules[jaa,jac,jad]) only [go_sem]
 exact ⟨1,rfl⟩
def S11 (f:FuncId):Bool:=Nat.beq f 24
noncomputable def F11:Fns:=PX S11 F10
theorem qst {A:Nat->Int}:Env Try.prog A tys F11:=jgs qss
theorem qti {f:FuncId} (h1:S1 f=false) (h2:Nat.beq f jf3.f=false) (h3:S3 f=false) (h4:S4 f=false) (h5:S5 f=false) (h6:S6 f=false) (h7:S7 f=false) (h8:S8 f=false) (h9:S9 f=false) (h10:S10 f=false) (h11:S11 f=false) {h:Hp}:jdq F11 f vs h=none:=(jbi h11).trans (qth h1 h2 h3 h4 h5 h6 h7 h8 h9 h10)
section
variable {h:Hp} {m:Nat×Nat} {f:Fc} {s:List Bool} {Q:AV->Hp->Prop}
theorem qlg (o:FlOk m f s) (m1:2<=m.1/\m.1<=10) (m2:2<=m.2/\m.2<=10):jdq F11 24 [.agg [jah jas f.values,jah ja3 f.blocks],.agg [si m.1,si m.2]] h=some (vi 0,h):=jbe rfl (by simp only [jav,ja1,ja7,jcc,ja2,ja8,ja5,jbl,ja9,jbh,if_true]) (qlf jeh o m1 m2)
theorem j88 (o:FlOk m f s):WC F11 25 [.agg [jah jas f.values,jah ja3 f.blocks]] h Q=Q (.agg (jzx (jqn s 0) (jem s) (jku s))) h :=
 jau ((jbi rfl).trans ((qls rfl rfl).trans (qld o.hs o.hg o.hne)))
theorem qb0 (o:FlOk m f s) (m1:2<=m.1/\m.1<=10) (m2:2<=m.2/\m.2<=10):WC F11 24 [.agg [jah jas f.values,jah ja3 f.blocks],.agg [si m.1,si m.2]] h Q=Q (vi 0) h:=jau (qlg o m1 m2)
end
def jz2 (s:List Bool):AV:=.tup [(true,jzx (jqn s 0) (jem s) (jku s)),(false,[si 0])]
theorem juz {α:Type} {h:Hp} {d:Nat} {enc:α->List SV} {l:List α}:jin true h (d+1) (jah enc l)=some (jah enc l):=by cases l<;>rfl
theorem qb1 {h:Hp} {s:List Bool}:jhd true h 2 (.tup [(true,[jah jas (jqn s 0),jah jjl (jem s),jah jas (jku s)]),(false,[.int .i64 0])])=some (jz2 s):=by
 show ob (ob (jid (jin true h 2) [jah jas (jqn s 0),jah jjl (jem s),jah jas (jku s)]) (fun x=>ob (qal (jin true h 2) [(false,[.int .i64 0])]) (fun r=>some ((true,x)::r)))) (fun y=>some (AV.tup y))=_
 rw [jco juz (jco juz (j04 juz))]
 rfl
theorem qlh {h:Hp} (ok:Ok h) {m:Nat×Nat} {f:Fc} {s:List Bool} (o:FlOk m f s) (m1:2<=m.1/\m.1<=10) (m2:2<=m.2/\m.2<=10):WC F11 12 [.agg [jah jas f.values,jah ja3 f.blocks],.agg [si m.1,si m.2]] h (fun v h'=>∃ d,jhd true h' d v=some (jz2 s)):=by
 refine jbf (qti rfl rfl rfl rfl rfl rfl rfl rfl rfl rfl rfl) qrr rfl ?_
 unfold qdy
 obtain ⟨hA,eA,okA,nA,xA,gA⟩:=jfh ok [jah jas f.values,jah ja3 f.blocks] 30
 obtain ⟨hB,eB,okB,nB,xB,gB⟩:=jfh okA [si m.1,si m.2] 25
 obtain ⟨hC,eC,okC,nC,xC,gC⟩:=jfh okB [.nilSlice,.nilSlice,.nilSlice] 36
 have yA:=(gC _ (by omega)).trans ((gB _ (by omega)).trans xA)
 have yB:=(gC _ (by omega)).trans xB
 have nb:hB.next=h.next+2:=by omega
 rw [nA] at yB
 rw [nb] at xC
 simp (disch:=first|omega|rfl|apply_rules[jaa,jac,jad]) only [go_sem,eA,eB,eC,nA,nb,yA,yB,qb0 o m1 m2]
 unfold j8t
 simp (disch:=first|omega|rfl|apply_rules[jaa,jac,jad]) only [go_sem,yA,j88 o,jzx,xC]
 exact ⟨2,qb1⟩
def S12 (f:FuncId):Bool:=Nat.beq f 12
noncomputable def F12:Fns:=PX S12 F11
theorem qsu {A:Nat->Int}:Env Try.prog A tys F12:=jgs qst
theorem qsv {f:FuncId} (h1:S1 f=false) (h2:Nat.beq f jf3.f=false) (h3:S3 f=false) (h4:S4 f=false) (h5:S5 f=false) (h6:S6 f=false) (h7:S7 f=false) (h8:S8 f=false) (h9:S9 f=false) (h10:S10 f=false) (h11:S11 f=false) (h12:S12 f=false) {h:Hp}:jdq F12 f vs h=none:=(jbi h12).trans (qti h1 h2 h3 h4 h5 h6 h7 h8 h9 h10 h11)
section
variable {h:Hp} {m:Nat×Nat} {f:Fc} {s:List Bool} {Q:AV->Hp->Prop}
theorem qpo (h4:S4 g=false) (h5:S5 g=false) (h6:S6 g=false) (h7:S7 g=false) (h8:S8 g=false) (h9:S9 g=false) (h10:S10 g=false) (h11:S11 g=false) (h12:S12 g=false):jdq F12 g vs h=jdq F3 g vs h :=
 (jbi h12).trans ((jbi h11).trans ((qls h9 h10).trans ((jbi h8).trans (qt8 h4 h5 h6 h7))))
end
end Go.Proofs.Ytehhjbfmjdlcjaa.Ev
