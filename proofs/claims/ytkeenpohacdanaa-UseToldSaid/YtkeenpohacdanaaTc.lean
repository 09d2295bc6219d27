/- Is each value made where it is used? What the code tells where one is not. -/
import Derived.Test.YtkeenpohacdanaaUi
import Derived.Test.YtkeenpohacdanaaOx
namespace Go.Proofs.Ytkeenpohacdanaa.Ev
open Go Go.RowKit Go.Proofs.Ytkeenpohacdanaa.Ms
attribute [local go_sem] Int.reduceToNat reduceCtorEq Nat.reduceAdd Nat.reduceMul Nat.reduceEqDiff Int.reduceEq Int.reduceLT Int.reduceLE Int.reduceNeg Int.reduceAdd Int.reduceSub Int.reduceMul Int.reduceNe
attribute [local go_sem ↓] reduceIte
set_option linter.all false
set_option maxRecDepth 100000
set_option maxHeartbeats 2000000
variable {x0 x2 x3 x4 x5 x6 x7 x8 x9 x10 x11 x12 x13 x28 x29 x30 x31 x32 x33:AV} {Q:Ex->St->Prop} {f:Fc} {h:Hp} {n:Int} {idom:List Int} {i k:Nat}
theorem j7l (ok:Ok h) (hk:¬ n<(i:Int)):WC F8 56 [.s (jaf jhv idom),.agg [si k,si n],.agg [si k,si i]] h (fun v h'=>∃ d,jfq true h' d v=some (vb false)):=by
 refine ja9 (no8 rfl rfl rfl rfl rfl rfl rfl rfl) j6y rfl ?_
 unfold jtr
 obtain⟨hA,eA,okA,nA,xA,gA⟩:=jed ok [si k,si n] 110
 obtain⟨hB,eB,okB,nB,xB,gB⟩:=jed okA [si k,si i] 110
 have yA:=(gB _ (by omega)).trans xA
 rw[nA] at xB
 have c1:((k:Int)=(k:Int))=True:=by simp
 have c2:(n<(i:Int))=False:=eq_false hk
 simp(disch:=first|omega|rfl) only[go_sem,eA,nA,eB,yA,xB,c1,c2]
 exact⟨1,rfl⟩
def BK (T:List (Nat×Int)) (v k i:Nat):Prop:=∃ n,T[v]?=some (k,n)/\¬ n<(i:Int)
theorem BK.no {T:List (Nat×Int)} {v:Nat} (b:BK T v k i):¬ KT idom T v k i:=by
 rintro⟨p,h1,h2⟩
 obtain⟨n,h3,h4⟩:=b
 rw[h3] at h1;cases h1
 rcases h2 with⟨_,h5⟩ | ⟨h5,_⟩
 .exact h4 h5
 .exact h5 rfl
theorem qid {Q:AV->Hp->Prop} (hk:¬ n<(i:Int)):WC F9 56 [.s (jaf jhv idom),.agg [si k,si n],.agg [si k,si i]] h Q=Q (vb false) h :=
 jap (jbh rfl (by simp only[jav,ja3,jbc,jcv,ja4,jbd,ja8,jbt,jbe,jbi,if_true]) (j7l jec hk))
theorem qie {T:List (Nat×Int)} {l:List Ms.Opd} (hl:l.length<=10000) (hp:∀ o∈l,o.kind=1->KT idom T o.value k i∨BK T o.value k i) {x23 x24 x25 x26 x27:AV} (hF:∀ hj x3 x4 x5 x6 x7 x8 x9 x10 x11 x12 x13 x14 x15 x16 x17 x18 x19 x20 x21 x22 x23 x24 x25 x26 x27 x28 x29 x30 x31 x32 x33,Q .ret (.mk [x0,.s (jaf jhv idom),vb false,x3,x4,x5,x6,x7,x8,x9,x10,x11,x12,x13,x14,x15,x16,x17,x18,x19,x20,x21,x22,x23,x24,x25,x26,x27,x28,x29,x30,x31,x32,x33] hj)) :
 ∀ (d j:Nat) (_:j+d=l.length) {hi:Hp} (_:Ok hi) {x14 x18 x20:AV}
  (hQ:∀ hj x14 x18 x20,(∀ o∈l.drop j,o.kind=1->¬ BK T o.value k i)->Ok hj->hi.next<=hj.next->(∀ n,n<hi.next->hj.get n=hi.get n)->Q (.exit 4) (.mk [x0,.s (jaf jhv idom),x2,x3,x4,x5,x6,x7,x8,x9,x10,x11,x12,x13,x14,vi i,vi k,.s (jaf jg9 T),x18,.s (jaf jbb l),x20,vi l.length,vi l.length,x23,x24,x25,x26,x27,x28,x29,x30,x31,x32,x33] hj)),
  W F9 jjy.loop (.mk [x0,.s (jaf jhv idom),x2,x3,x4,x5,x6,x7,x8,x9,x10,x11,x12,x13,x14,vi i,vi k,.s (jaf jg9 T),x18,.s (jaf jbb l),x20,vi l.length,vi j,x23,x24,x25,x26,x27,x28,x29,x30,x31,x32,x33] hi) Q
 | 0,j,hd,hi,ok,x14,x18,x20,hQ=>by
  obtain rfl:j=l.length:=by omega
  rw[jak]
  unfold jjy
  simp(disch:=first|omega|rfl) only[go_sem,f0v]
  exact hQ hi _ _ _ (by rw[List.drop_length];simp) ok (f0e _) (fun _ _=>rfl)
 | d+1,j,hd,hi,ok,x14,x18,x20,hQ=>by
  have hlt:(j:Int)<(l.length:Int):=by omega
  obtain⟨o,hio⟩:∃ y,l[j]?=some y:=⟨_,f0c (by omega)⟩
  have ho:=hp o (f0b hio)
  have hix:=jag (enc:=jbb) (size:=5) hio rfl
  have hs:(j:Int)+1=((j+1:Nat):Int):=by omega
  obtain⟨hA,eA,okA,nA,xA,gA⟩:=jcm ok [.int .i64 0,.int .i64 0,.bool false,.int .i64 0,.int .i64 0] (jbb o) 46
  unfold jbb at xA eA
  have hdr:(BK T o.value k i->False)->(∀ q∈l.drop (j+1),q.kind=1->¬ BK T q.value k i)->∀ q∈l.drop j,q.kind=1->¬ BK T q.value k i:=fun hb nb q hq hk=>by
   rw[f1o (by omega),(f05.1 hio).2] at hq
   rcases f0g.1 hq with rfl | hq
   .exact hb
   .exact nb q hq hk
  rw[jak]
  unfold jjy jvr
  by_cases e:o.kind=1
  .have c1:((o.kind:Int)=1)=True:=by simp;omega
   rcases ho e with hk | ⟨pn,h1,h2⟩
   .have hb:=fun b=>BK.no b hk
    obtain⟨⟨pb,pn⟩,h1,h2⟩:=hk
    have hxs:=jag (enc:=jg9) (size:=2) h1 rfl
    simp(disch:=first|omega|rfl) only[go_sem,jad,eq_true hlt,hix,jbb,eA,xA,c1,hxs,jg9,jv5 h2,hs]
    exact qie hl hp hF d (j+1) (by omega) okA (fun hj x14 x18 x20 nb o n g=>hQ hj x14 x18 x20 (hdr hb nb) o (by omega) (fun m hm=>(g m (by omega)).trans (gA m hm)))
   .have hxs:=jag (enc:=jg9) (size:=2) h1 rfl
    simp(disch:=first|omega|rfl) only[go_sem,jad,eq_true hlt,hix,jbb,eA,xA,c1,hxs,jg9,qid h2]
    exact hF ..
  .have c1:((o.kind:Int)=1)=False:=by simp;omega
   simp(disch:=first|omega|rfl) only[go_sem,jad,eq_true hlt,hix,jbb,eA,xA,c1,hs]
   exact qie hl hp hF d (j+1) (by omega) okA (fun hj x14 x18 x20 nb o' n g=>hQ hj x14 x18 x20 (fun q hq hk=>by
    rw[f1o (by omega),(f05.1 hio).2] at hq
    rcases f0g.1 hq with rfl | hq
    .exact absurd hk e
    .exact nb q hq hk) o' (by omega) (fun m hm=>(g m (by omega)).trans (gA m hm)))
theorem ql8 {T:List (Nat×Int)} {l:List Ms.Ins} (hl:l.length<=10000) (hp:∀ (i:Nat) (x:Ms.Ins),l[i]?=some x->x.ops.length<=6/\∀ o∈x.ops,o.kind=1->KT idom T o.value k i∨BK T o.value k i) (hF:∀ hj x3 x4 x5 x6 x7 x8 x9 x10 x11 x12 x13 x14 x15 x16 x17 x18 x19 x20 x21 x22 x23 x24 x25 x26 x27 x28 x29 x30 x31 x32 x33,Q .ret (.mk [x0,.s (jaf jhv idom),vb false,x3,x4,x5,x6,x7,x8,x9,x10,x11,x12,x13,x14,x15,x16,x17,x18,x19,x20,x21,x22,x23,x24,x25,x26,x27,x28,x29,x30,x31,x32,x33] hj)) :
 ∀ (d j:Nat) (_:j+d=l.length) {hi:Hp} (_:Ok hi) {x14 x15 x18 x19 x20 x21 x22 x23 x25:AV}
  (hQ:∀ hj x14 x15 x18 x19 x20 x21 x22 x23 x25,(∀ (i:Nat) (x:Ms.Ins),j<=i->l[i]?=some x->∀ o∈x.ops,o.kind=1->¬ BK T o.value k i)->Ok hj->hi.next<=hj.next->(∀ n,n<hi.next->hj.get n=hi.get n)->Q (.exit 2) (.mk [x0,.s (jaf jhv idom),x2,x3,x4,x5,x6,x7,x8,x9,x10,x11,x12,x13,x14,x15,vi k,.s (jaf jg9 T),x18,x19,x20,x21,x22,x23,.s (jaf jdz l),x25,vi l.length,vi l.length,x28,x29,x30,x31,x32,x33] hj)),
  W F9 jjz.loop (.mk [x0,.s (jaf jhv idom),x2,x3,x4,x5,x6,x7,x8,x9,x10,x11,x12,x13,x14,x15,vi k,.s (jaf jg9 T),x18,x19,x20,x21,x22,x23,.s (jaf jdz l),x25,vi l.length,vi j,x28,x29,x30,x31,x32,x33] hi) Q
 | 0,j,hd,hi,ok,x14,x15,x18,x19,x20,x21,x22,x23,x25,hQ=>by
  obtain rfl:j=l.length:=by omega
  rw[jak]
  unfold jjz
  simp(disch:=first|omega|rfl) only[go_sem,f0v]
  exact hQ hi _ _ _ _ _ _ _ _ _ (fun i x h1 h2=>by rw[f0m h1] at h2;cases h2) ok (f0e _) (fun _ _=>rfl)
 | d+1,j,hd,hi,ok,x14,x15,x18,x19,x20,x21,x22,x23,x25,hQ=>by
  have hlt:(j:Int)<(l.length:Int):=by omega
  obtain⟨x,hio⟩:∃ y,l[j]?=some y:=⟨_,f0c (by omega)⟩
  obtain⟨hx1,hx2⟩:=hp j x hio
  have hix:=jag (enc:=jdz) (size:=3) hio rfl
  have hs:(j:Int)+1=((j+1:Nat):Int):=by omega
  obtain⟨hA,eA,okA,nA,xA,gA⟩:=jcm ok [.int .i64 0,.nilSlice,.nilSlice] (jdz x) 44
  have l1:=jaj (enc:=jbb) (l:=x.ops)
  unfold jdz at xA eA
  rw[jak]
  unfold jjz jvs
  simp(disch:=first|omega|rfl) only[go_sem,jad,eq_true hlt,hix,jdz,eA,xA,l1]
  refine qie (by omega) hx2 (fun hj x3 x4 x5 x6 x7 x8 x9 x10 x11 x12 x13 x14 x15 x16 x17 x18 x19 x20 x21 x22 x23 x24 x25 x26 x27 x28 x29 x30 x31 x32 x33=>?_) x.ops.length 0 (by omega) okA (fun hj x14 x18 x20 nb1 o n g=>?_)
  .simp (disch:=first|omega|rfl) only[go_sem]
   exact hF ..
  simp(disch:=first|omega|rfl) only[go_sem,jad,hs]
  exact ql8 hl hp hF d (j+1) (by omega) o (fun hk x14 x15 x18 x19 x20 x21 x22 x23 x25 nb o' n' g'=>hQ hk x14 x15 x18 x19 x20 x21 x22 x23 x25 (fun i y h1 h2=>by
   rcases f0h j i with h3 | h3
   .exact nb i y h3 h2
   .obtain rfl:i=j:=by omega
    rw[hio] at h2;cases h2
    exact nb1) o' (by omega) (fun m hm=>(g' m (by omega)).trans ((g m (by omega)).trans (gA m hm))))
structure UbOk (idom:List Int) (f:Fc):Prop where
 nb:f.blocks.length<=10000
 sz:∀ b∈f.blocks,b.instrs.length<=10000/\b.edges.length<=10000
 us:∀ (k i:Nat) (b:Blk) (x:Ms.Ins),f.blocks[k]?=some b->b.instrs[i]?=some x->x.ops.length<=6/\∀ o∈x.ops,o.kind=1->KT idom (jb5 f) o.value k i∨BK (jb5 f) o.value k i
 ed:∀ (k:Nat) (b:Blk) (e:Ms.Edg),f.blocks[k]?=some b->e∈b.edges->e.args.length<=10000/\∀ v∈e.args,KT idom (jb5 f) v k b.instrs.length
theorem ql9 (u:UbOk idom f) (hF:∀ hj x3 x4 x5 x6 x7 x8 x9 x10 x11 x12 x13 x14 x15 x16 x17 x18 x19 x20 x21 x22 x23 x24 x25 x26 x27 x28 x29 x30 x31 x32 x33,Q .ret (.mk [x0,.s (jaf jhv idom),vb false,x3,x4,x5,x6,x7,x8,x9,x10,x11,x12,x13,x14,x15,x16,x17,x18,x19,x20,x21,x22,x23,x24,x25,x26,x27,x28,x29,x30,x31,x32,x33] hj)) :
 ∀ (d j:Nat) (_:j+d=f.blocks.length) {hi:Hp} (_:Ok hi) {x3 x4 x5 x6 x7 x8 x9 x10 x11 x12 x13 x14 x15 x16 x18 x19 x20 x21 x22 x23 x24 x25 x26 x27 x28 x30:AV}
  (hQ:∀ hj x3 x4 x5 x6 x7 x8 x9 x10 x11 x12 x13 x14 x15 x16 x18 x19 x20 x21 x22 x23 x24 x25 x26 x27 x28 x30,(∀ (k i:Nat) (b:Blk) (x:Ms.Ins),j<=k->f.blocks[k]?=some b->b.instrs[i]?=some x->∀ o∈x.ops,o.kind=1->¬ BK (jb5 f) o.value k i)->Q (.exit 0) (.mk [x0,.s (jaf jhv idom),x2,x3,x4,x5,x6,x7,x8,x9,x10,x11,x12,x13,x14,x15,x16,.s (jaf jg9 (jb5 f)),x18,x19,x20,x21,x22,x23,x24,x25,x26,x27,x28,.s (jaf ja1 f.blocks),x30,vi f.blocks.length,vi f.blocks.length,x33] hj)),
  W F9 jj2.loop (.mk [x0,.s (jaf jhv idom),x2,x3,x4,x5,x6,x7,x8,x9,x10,x11,x12,x13,x14,x15,x16,.s (jaf jg9 (jb5 f)),x18,x19,x20,x21,x22,x23,x24,x25,x26,x27,x28,.s (jaf ja1 f.blocks),x30,vi f.blocks.length,vi j,x33] hi) Q
 | 0,j,hd,hi,ok,x3,x4,x5,x6,x7,x8,x9,x10,x11,x12,x13,x14,x15,x16,x18,x19,x20,x21,x22,x23,x24,x25,x26,x27,x28,x30,hQ=>by
  obtain rfl:j=f.blocks.length:=by omega
  rw[jak]
  unfold jj2
  simp(disch:=first|omega|rfl) only[go_sem,f0v]
  exact hQ hi _ _ _ _ _ _ _ _ _ _ _ _ _ _ _ _ _ _ _ _ _ _ _ _ _ _ (fun k i b x h1 h2=>by rw[f0m h1] at h2;cases h2)
 | d+1,j,hd,hi,ok,x3,x4,x5,x6,x7,x8,x9,x10,x11,x12,x13,x14,x15,x16,x18,x19,x20,x21,x22,x23,x24,x25,x26,x27,x28,x30,hQ=>by
  have nb:=u.nb
  have hlt:(j:Int)<(f.blocks.length:Int):=by omega
  obtain⟨b,hio⟩:∃ y,f.blocks[j]?=some y:=⟨_,f0c (by omega)⟩
  obtain⟨s1,s2⟩:=u.sz b (f0b hio)
  have hix:=jag (enc:=ja1) (size:=3) hio rfl
  have hs:(j:Int)+1=((j+1:Nat):Int):=by omega
  obtain⟨hA,eA,okA,nA,xA,gA⟩:=jcm ok [.nilSlice,.nilSlice,.nilSlice] (ja1 b) 36
  have l1:=jaj (enc:=jdz) (l:=b.instrs)
  have l2:=jaj (enc:=jfj) (l:=b.edges)
  unfold ja1 at xA eA
  rw[jak]
  unfold jj2 jvw
  simp(disch:=first|omega|rfl) only[go_sem,jad,eq_true hlt,hix,ja1,eA,xA,l1]
  refine ql8 s1 (fun i x hx=>u.us j i b x hio hx) (fun hj x3 x4 x5 x6 x7 x8 x9 x10 x11 x12 x13 x14 x15 x16 x17 x18 x19 x20 x21 x22 x23 x24 x25 x26 x27 x28 x29 x30 x31 x32 x33=>?_) b.instrs.length 0 (by omega) okA (fun hj x14 x15 x18 x19 x20 x21 x22 x23 x25 nb1 o n g=>?_)
  .simp (disch:=first|omega|rfl) only[go_sem]
   exact hF ..
  have yA:=(g _ (by omega)).trans xA
  simp(disch:=first|omega|rfl) only[go_sem,yA,l2]
  refine qbx s2 (fun e he=>u.ed j b e hio he) b.edges.length 0 (by omega) o (by omega) yA (fun hk x3 x4 x5 x6 x7 x8 x9 x11 o' n' g'=>?_)
  simp(disch:=first|omega|rfl) only[go_sem,jad,hs]
  exact ql9 u hF d (j+1) (by omega) o' (fun hj x3 x4 x5 x6 x7 x8 x9 x10 x11 x12 x13 x14 x15 x16 x18 x19 x20 x21 x22 x23 x24 x25 x26 x27 x28 x30 nb2=>hQ hj x3 x4 x5 x6 x7 x8 x9 x10 x11 x12 x13 x14 x15 x16 x18 x19 x20 x21 x22 x23 x24 x25 x26 x27 x28 x30 (fun k i c x h1 h2 h3=>by
   rcases f0h j k with h4 | h4
   .exact nb2 k i c x h4 h2 h3
   .obtain rfl:k=j:=by omega
    rw[hio] at h2;cases h2
    exact nb1 i x (f1y _) h3))
theorem qma (ok:Ok h) (u:UbOk idom f) {k0 i0:Nat} {b0:Blk} {y0:Ms.Ins} {o0:Ms.Opd} (hb0:f.blocks[k0]?=some b0) (hy0:b0.instrs[i0]?=some y0) (ho0:o0∈y0.ops) (hk0:o0.kind=1) (hbk:BK (jb5 f) o0.value k0 i0) (hv:f.values.length<=10000) (hne:f.values≠[]) (hp:∀ b∈f.blocks,b.params.length<=10000/\b.instrs.length<=10000/\(∀ v∈b.params,v<f.values.length)/\∀ x∈b.instrs,x.ops.length<=6/\∀ o∈x.ops,o.value<f.values.length) :
 WC F9 27 [.agg [jaf jay f.values,jaf ja1 f.blocks],.s (jaf jhv idom)] h (fun v h'=>∃ d,jfq true h' d v=some (vb false)):=by
 refine ja9 (no9 rfl rfl rfl rfl rfl rfl rfl rfl rfl) qfc rfl ?_
 unfold j0q
 obtain⟨hA,eA,okA,nA,xA,gA⟩:=jed ok [jaf jay f.values,jaf ja1 f.blocks] 26
 have l2:=jaj (enc:=ja1) (l:=f.blocks)
 simp(disch:=first|omega|rfl) only[go_sem,eA,xA,qh5 u.nb hv hne hp,l2]
 refine ql9 u (fun hj x3 x4 x5 x6 x7 x8 x9 x10 x11 x12 x13 x14 x15 x16 x17 x18 x19 x20 x21 x22 x23 x24 x25 x26 x27 x28 x29 x30 x31 x32 x33=>?_) f.blocks.length 0 (by omega) okA (fun hj x3 x4 x5 x6 x7 x8 x9 x10 x11 x12 x13 x14 x15 x16 x18 x19 x20 x21 x22 x23 x24 x25 x26 x27 x28 x30 nb=>absurd hbk (nb k0 i0 b0 y0 (f1y _) hb0 hy0 o0 ho0 hk0))
 simp(disch:=first|omega|rfl) only[go_sem]
 exact⟨1,rfl⟩
end Go.Proofs.Ytkeenpohacdanaa.Ev
namespace Go.Proofs.Ytkeenpohacdanaa.Ms
open Go.Proofs.Ytkeenpohacdanaa.Ev (FlOk FlG UbOk BK KT jb5 jtx jhs.kt UsOk jtq jju)
set_option linter.all false
variable {i k u:Nat}
def jll (i v:Nat) (b:Blk):Blk:={ b with instrs:=b.instrs.take i++jqx 1 v::b.instrs.drop i }
def j2e (f:Fc) (k i v:Nat):Fc:=⟨f.values,f.blocks.modify k (jll i v)⟩
theorem jlm {l:List Blk} {j:Nat} {g:Blk->Blk}:(l.modify k g)[j]?=if k=j then l[j]?.map g else l[j]?:=by
 rw[f02]
 by_cases e:k=j
 .rw [if_pos e];cases l[j]? with
  | none=>rfl
  | some b=>exact congrArg some (if_pos e)
 .rw [if_neg e];cases l[j]? with
  | none=>rfl
  | some b=>exact congrArg some (if_neg e)
theorem j7m {α:Type} {g:Blk->Blk} {q:Blk->α} (h:∀ b,q (g b)=q b):∀ (l:List Blk) (k:Nat),(l.modify k g).map q=l.map q:=by
 intro l k
 apply f2p
 intro j
 rw[f08,f08,jlm]
 by_cases e:k=j
 .rw [if_pos e]
  cases l[j]? with
  | none=>rfl
  | some b=>exact congrArg some (h b)
 .rw [if_neg e]
theorem qb4 {g:Blk->Blk} (h:∀ b,(g b).instrs.length<=b.instrs.length+1):∀ (l:List Blk) (k:Nat),sm (l.modify k g)<=sm l+1
 | [],k=>by cases k<;>exact f1y _
 | a::l,0=>by
  show sm (g a::l)<=sm (a::l)+1
  have:=h a
  unfold sm
  simp only[f3b,List.sum_cons]
  omega
 | a::l,k+1=>by
  have ih:=qb4 h l k
  show sm (a::l.modify k g)<=sm (a::l)+1
  unfold sm at ih ⊢
  simp only[f3b,List.sum_cons]
  omega
theorem jyi {α:Type} {l:List α} {y:α}:(l.take i++y::l.drop i).length=l.length+1:=by simp;omega
theorem jtz {α:Type} {l:List α} {y:α} (hi:i<=l.length) (j:Nat):(l.take i++y::l.drop i)[j]?=if j<i then l[j]? else if j=i then some y else l[j - 1]?:=by
 have hl:(l.take i).length=i:=by rw[f1w];omega
 by_cases h1:j<i
 .rw [if_pos h1,f0p (by omega),f1r,if_pos h1]
 .rw [if_neg h1,f0q (by omega),hl]
  by_cases h2:j=i
  .subst h2;rw[if_pos rfl,Nat.sub_self];rfl
  .rw [if_neg h2,show j - i=(j - i - 1)+1 by omega,f17,f1d,show i+(j - i - 1)=j - 1 by omega]
theorem j9x (i v:Nat) (b:Blk):jjt (jll i v b)=jjt b:=by
 unfold jjt jll
 congr 1
 simp only[f3j,f3b,f1j,f13]
 rw[show jb3 (jqx 1 v)=[] from rfl,f1g,←f1j,←f3j,List.take_append_drop]
def shf (k i b:Nat) (n:Int):Int:=if b=k/\(i:Int)<=n then n+1 else n
theorem jl9.ins {bs:List Blk} {v b:Nat} {n:Int} {B:Blk} (hB:bs[k]?=some B) (hi:i<=B.instrs.length) (h:jl9 bs u b n):jl9 (bs.modify k (jll i v)) u b (shf k i b n):=by
 obtain⟨x,hx,h2⟩:=h
 by_cases e:k=b
 .subst e
  rw[hB] at hx;cases hx
  refine⟨jll i v B,by rw[jlm,if_pos rfl,hB];rfl,?_⟩
  rcases h2 with⟨rfl,h2⟩ | ⟨j,y,rfl,h3,h4⟩
  .exact .inl ⟨by unfold shf;rw[if_neg (by omega)],h2⟩
  .by_cases h5:j<i
   .exact .inr ⟨j,y,by unfold shf;rw[if_neg (by omega)],by unfold jll;rw[jtz hi,if_pos h5];exact h3,h4⟩
   .exact .inr ⟨j+1,y,by unfold shf;rw[if_pos (by omega)];rfl,by unfold jll;rw[jtz hi,if_neg (by omega),if_neg (by omega)];exact h3,h4⟩
 .refine ⟨x,by rw[jlm,if_neg e];exact hx,?_⟩
  have:shf k i b n=n:=by unfold shf;rw[if_neg (fun h=>e h.1.symm)]
  rw[this]
  exact h2
theorem jhs.ins {idom:List Int} {bs:List Blk} {v q j:Nat} {B:Blk} (hB:bs[k]?=some B) (hi:i<=B.instrs.length) (h:jhs idom bs u q j):jhs idom (bs.modify k (jll i v)) u q (if q=k/\i<=j then j+1 else j):=by
 obtain⟨b,n,h1,h2⟩:=h
 refine⟨b,shf k i b n,h1.ins hB hi,?_⟩
 rcases h2 with⟨rfl,h2⟩ | h2
 .refine .inl ⟨rfl,?_⟩
  unfold shf
  by_cases e:b=k
  .by_cases e2:i<=j
   .rw [if_pos (⟨e,e2⟩:b=k/\i<=j)];split<;>omega
   .rw [if_neg (fun h:b=k/\(i:Int)<=n=>by omega),if_neg (fun h:b=k/\i<=j=>e2 h.2)];exact h2
  .rw [if_neg (fun h:b=k/\(i:Int)<=n=>e h.1),if_neg (fun h:b=k/\i<=j=>e h.1)];exact h2
 .exact .inr h2
theorem qmb {m:Nat×Nat} {f:Fc} {s:List Bool} (o:FlOk m f s) (m1:2<=m.1/\m.1<=10) (m2:2<=m.2/\m.2<=10) (kp:(jb4 f.blocks).Perm (List.range f.values.length))
 (hu:∀ (k i:Nat) (b:Blk) (x:Ins) (q:Opd),f.blocks[k]?=some b->b.instrs[i]?=some x->q∈x.ops->q.kind=1->jhs (jd5 s) f.blocks q.value k i)
 (he:∀ (k:Nat) (b:Blk) (e:Edg) (v:Nat),f.blocks[k]?=some b->e∈b.edges->v∈e.args->jhs (jd5 s) f.blocks v k b.instrs.length)
 (hz:∀ b∈f.blocks,b.instrs.length<=23) (hs:sm f.blocks<=100) {k i v:Nat} {B:Blk} {X:Ins} (hB:f.blocks[k]?=some B) (hX:B.instrs[i]?=some X) (hv:v∈jb3 X) :
 FlG m (j2e f k i v) s/\UbOk (jd5 s) (j2e f k i v)/\(j2e f k i v).blocks[k]?=some (jll i v B)/\(jll i v B).instrs[i]?=some (jqx 1 v)/\BK (jb5 (j2e f k i v)) v k i:=by
 have hi:=Nat.le_of_lt (f05.1 hX).1
 have em:jb4 (f.blocks.modify k (jll i v))=jb4 f.blocks:=by unfold jb4;rw[j7m (j9x i v)]
 have kp':(jb4 (j2e f k i v).blocks).Perm (List.range (j2e f k i v).values.length):=by show(jb4 (f.blocks.modify k (jll i v))).Perm _;rw[em];exact kp
 have eg:grL (f.blocks.modify k (jll i v))=grL f.blocks:=by unfold grL;exact j7m (g:=jll i v) (fun _=>rfl) _ _
 have hvl:v<f.values.length:=by
  have h1:v∈jb4 f.blocks:=by
   unfold jb4 jjt
   exact List.mem_flatten.2 ⟨_,f1q.2 ⟨B,f0b hB,rfl⟩,f0u _ (List.mem_flatten.2 ⟨_,f1q.2 ⟨X,f0b hX,rfl⟩,hv⟩)⟩
  exact List.mem_range.1 (kp.mem_iff.1 h1)
 have hsm:=qb4 (g:=jll i v) (fun b=>by unfold jll;rw[jyi];exact f0e _) f.blocks k
 have fk:FcOk m (j2e f k i v):=o.k.instrs (j:=k) (g:=fun l=>l.take i++jqx 1 v::l.drop i) (fun b hb=>⟨by rw[jyi];have:=hz b hb;omega,fun _=>by simp,fun x hx=>by
  rcases f0d.1 hx with hx | hx
  .exact o.k.ins b hb x (List.mem_of_mem_take hx)
  .rcases f0g.1 hx with rfl | hx
   .exact qic m1.1 m2.1 (.inl rfl) hvl
   .exact o.k.ins b hb x (List.mem_of_mem_drop hx)⟩) (by
  have:sm (f.blocks.modify k (fun b=>{ b with instrs:=b.instrs.take i++jqx 1 v::b.instrs.drop i }))<=sm f.blocks+1:=hsm
  omega)
 have gB:(j2e f k i v).blocks[k]?=some (jll i v B):=by show(f.blocks.modify k (jll i v))[k]?=_;rw[jlm,if_pos rfl,hB];rfl
 have gy:(jll i v B).instrs[i]?=some (jqx 1 v):=by unfold jll;rw[jtz hi,if_neg (by omega),if_pos rfl]
 have dv:jl9 (j2e f k i v).blocks v k ((i:Int)+1):=by
  have h1:jl9 f.blocks v k (i:Int):=⟨B,hB,.inr ⟨i,X,rfl,hX,hv⟩⟩
  have h2:=h1.ins (v:=v) hB hi
  unfold shf at h2
  rw[if_pos ⟨rfl,Int.le_refl _⟩] at h2
  exact h2
 have bk:BK (jb5 (j2e f k i v)) v k i:=⟨(i:Int)+1,jtx kp' dv,by omega⟩
 refine⟨⟨fk,jtq kp',o.hs,eg.trans o.hg,o.hv⟩,⟨by have:=fk.nb;omega,fun b hb=>by have:=fk.blk b hb;omega,fun q j b x hb hx=>⟨(fk.ins b (f0b hb) x (f0b hx)).nops,fun p hp hk=>?_⟩,fun q b e hb hm=>⟨?_,fun u hu'=>?_⟩⟩,gB,gy,bk⟩
 .have hb':(f.blocks.modify k (jll i v))[q]?=some b:=hb
  rw[jlm] at hb'
  by_cases e:k=q
  .subst e
   rw[if_pos rfl,hB] at hb'
   obtain rfl:jll i v B=b:=Option.some.inj hb'
   unfold jll at hx
   rw[jtz hi] at hx
   by_cases h1:j<i
   .rw [if_pos h1] at hx
    have:=(hu k j B x p hB hx hp hk).ins (v:=v) hB hi
    rw[if_neg (by omega)] at this
    exact .inl (jhs.kt kp' this)
   .rw [if_neg h1] at hx
    by_cases h2:j=i
    .subst h2
     rw[if_pos rfl] at hx
     obtain rfl:jqx 1 v=x:=Option.some.inj hx
     have:p=⟨1,v,false,1,0⟩:=f0i.1 hp
     subst this
     exact .inr bk
    .rw [if_neg h2] at hx
     have:=(hu k (j - 1) B x p hB hx hp hk).ins (v:=v) hB hi
     rw[if_pos ⟨rfl,by omega⟩,show j - 1+1=j by omega] at this
     exact .inl (jhs.kt kp' this)
  .rw [if_neg e] at hb'
   have:=(hu q j b x p hb' hx hp hk).ins (v:=v) hB hi
   rw[if_neg (fun h=>e h.1.symm)] at this
   exact .inl (jhs.kt kp' this)
 .obtain ⟨_,_,t,h5,h6,_⟩:=fk.edg b (f0b hb) e hm
  have h7:=(fk.blk t (f0b h5)).1
  have:=congrArg List.length h6
  simp only[f1a] at this
  omega
 .have hb':(f.blocks.modify k (jll i v))[q]?=some b:=hb
  rw[jlm] at hb'
  by_cases e2:k=q
  .subst e2
   rw[if_pos rfl,hB] at hb'
   obtain rfl:jll i v B=b:=Option.some.inj hb'
   have:=(he k B e u hB hm hu').ins (v:=v) hB hi
   rw[if_pos ⟨rfl,hi⟩] at this
   have h3:(jll i v B).instrs.length=B.instrs.length+1:=by unfold jll;exact jyi
   rw[h3]
   exact jhs.kt kp' this
  .rw [if_neg e2] at hb'
   have:=(he q b e u hb' hm hu').ins (v:=v) hB hi
   rw[if_neg (fun h=>e2 h.1.symm)] at this
   exact jhs.kt kp' this
end Go.Proofs.Ytkeenpohacdanaa.Ms
namespace Go.Proofs.Ytkeenpohacdanaa.Ev
open Go Go.RowKit Go.Proofs.Ytkeenpohacdanaa.Ms
set_option linter.all false
set_option maxRecDepth 100000
set_option maxHeartbeats 2000000
variable {f:Fc} {h:Hp} {s:List Bool} {i0 k0:Nat} {m:Nat×Nat}
theorem j9y {Q:AV->Hp->Prop} (o:FlG m f s) (u:UbOk (jd5 s) f) {b0:Blk} {y0:Ms.Ins} {o0:Ms.Opd} (hb0:f.blocks[k0]?=some b0) (hy0:b0.instrs[i0]?=some y0) (ho0:o0∈y0.ops) (hk0:o0.kind=1) (hbk:BK (jb5 f) o0.value k0 i0) :
 WC F10 27 [.agg [jaf jay f.values,jaf ja1 f.blocks],.s (jaf jhv (jd5 s))] h Q=Q (vb false) h :=
 jap (jbh rfl (by simp only[jav,ja3,jbc,jcv,ja4,jbd,ja8,jbt,jbe,jbi,if_true]) (qma jec u hb0 hy0 ho0 hk0 hbk (by have:=o.k.nv;omega) o.hv (j6p o.k)))
theorem qif (ok:Ok h) (o:FlG m f s) (m1:2<=m.1/\m.1<=10) (m2:2<=m.2/\m.2<=10) (u:UbOk (jd5 s) f) {b0:Blk} {y0:Ms.Ins} {o0:Ms.Opd} (hb0:f.blocks[k0]?=some b0) (hy0:b0.instrs[i0]?=some y0) (ho0:o0∈y0.ops) (hk0:o0.kind=1) (hbk:BK (jb5 f) o0.value k0 i0) :
 WC F10 13 [.agg [jaf jay f.values,jaf ja1 f.blocks],.agg [si m.1,si m.2]] h (fun v h'=>∃ d,jfq true h' d v=some (vi 10)) :=
 o.fck ok m1 m2 (r:=false) (fun _ _=>j9y o u hb0 hy0 ho0 hk0 hbk)
end Go.Proofs.Ytkeenpohacdanaa.Ev
