/- Is each value made where it is used? What the code tells. -/
import Derived.Test.YtdbklpgagdbpiaaDoorUe
import Derived.Test.YtdbklpgagdbpiaaDoorGT1
import Derived.Test.YtdbklpgagdbpiaaDoorGT3
import Derived.Test.YtdbklpgagdbpiaaDoorGT5
import Derived.Test.YtdbklpgagdbpiaaDoorGT7
namespace Go.Proofs.YtdbklpgagdbpiaaDoor.Ev
noncomputable section
open Go Go.RowKit Go.Proofs.YtdbklpgagdbpiaaDoor.Ms
attribute [local go_sem] Int.reduceToNat reduceCtorEq Nat.reduceAdd Nat.reduceMul Nat.reduceEqDiff Int.reduceEq Int.reduceLT Int.reduceLE Int.reduceNeg Int.reduceAdd Int.reduceSub Int.reduceMul Int.reduceNe
attribute [local go_sem ↓] reduceIte
set_option linter.all false
set_option maxRecDepth 100000
set_option maxHeartbeats 2000000
variable {x0 x1 x2 x3 x4 x5 x6 x7 x8 x9 x10 x11 x12 x13 x14 x15 x16 x17 x18 x19 x20 x21 x22 x23 x24 x25 x26 x27 x28 x29 x30 x31 x32 x33:AV} {n:Int} {vs:List AV} {idom:List Int} {a v bB:Nat}
def S8 (f:FuncId):Bool:=Nat.beq f 59||(Nat.beq f 43||(Nat.beq f 29||(Nat.beq f 30||(Nat.beq f 32||Nat.beq f 999999))))
def F8:Fns:=PX S8 F7
theorem qxq {A:Nat->Int}:Env Tryd.prog A tys F8:=jhx qxd
theorem no8 {f:FuncId} (h1:S1 f=false) (h2:Nat.beq f jg9.f=false) (h3:S3 f=false) (h4:S4 f=false) (h5:S5 f=false) (h6:S6 f=false) (h7:S7 f=false) (h8:S8 f=false) {h:Hp}:jdx F8 f vs h=none:=(jbk h8).trans (no7 h1 h2 h3 h4 h5 h6 h7)
def S9 (f:FuncId):Bool:=Nat.beq f 44
def F9:Fns:=PX S9 F8
theorem qxr {A:Nat->Int}:Env Tryd.prog A tys F9:=jhx qxq
theorem no9 {f:FuncId} (h1:S1 f=false) (h2:Nat.beq f jg9.f=false) (h3:S3 f=false) (h4:S4 f=false) (h5:S5 f=false) (h6:S6 f=false) (h7:S7 f=false) (h8:S8 f=false) (h9:S9 f=false) {h:Hp}:jdx F9 f vs h=none:=(jbk h9).trans (no8 h1 h2 h3 h4 h5 h6 h7 h8)
theorem qnq {h:Hp} {Q:AV->Hp->Prop} {b:Int} (hd:Dom idom a b):WC F8 59 [.s (jae jlv idom),vi a,vi b] h Q=Q (vb true) h :=
 jaq (jbm rfl (by simp only[jat,ja1,jbd,jcw,ja2,jbe,jbb,jbq,jbf,jbn,if_true]) (qk0 jex hd))
def KP (idom:List Int) (p:Nat×Int) (k:Nat) (i:Nat):Prop:=(p.1=k/\p.2<(i:Int))∨(p.1≠k/\Dom idom p.1 k)
theorem qbd {h:Hp} (ok:Ok h) {k i:Nat} (hk:KP idom (a,n) k i):WC F8 44 [.s (jae jlv idom),.agg [si a,si n],.agg [si k,si i]] h (fun v h'=>∃ d,jhz true h' d v=some (vb true)):=by
 refine ja9 (no8 rfl rfl rfl rfl rfl rfl rfl rfl) qky rfl ?_
 unfold j4e
 obtain⟨hA,eA,okA,nA,xA,gA⟩:=je0 ok [si a,si n] 107
 obtain⟨hB,eB,okB,nB,xB,gB⟩:=je0 okA [si k,si i] 107
 have yA:=(gB _ (by omega)).trans xA
 rw[nA] at xB
 rcases hk with⟨h1,h2⟩ | ⟨h1,h2⟩
 .simp only at h1 h2
  have c1:((a:Int)=(k:Int))=True:=by simp;omega
  have c2:(n<(i:Int))=True:=eq_true h2
  simp(disch:=first|omega|rfl) only[go_sem,eA,nA,eB,yA,xB,c1,c2]
  exact⟨1,rfl⟩
 .simp only at h1 h2
  have c1:((a:Int)=(k:Int))=False:=by simp;omega
  simp(disch:=first|omega|rfl) only[go_sem,eA,nA,eB,yA,xB,c1]
  unfold jyx
  simp(disch:=first|omega|rfl) only[go_sem,yA,xB,qnq h2]
  exact⟨1,rfl⟩
theorem jy5 {h:Hp} {Q:AV->Hp->Prop} {k i:Nat} (hk:KP idom (a,n) k i):WC F9 44 [.s (jae jlv idom),.agg [si a,si n],.agg [si k,si i]] h Q=Q (vb true) h :=
 jaq (jbm rfl (by simp only[jat,ja1,jbd,jcw,ja2,jbe,jbb,jbq,jbf,jbn,if_true]) (qbd jex hk))
def KT (idom:List Int) (T:List (Nat×Int)) (v k i:Nat):Prop:=∃ p,T[v]?=some p/\KP idom p k i
theorem qbe {T:List (Nat×Int)} {l:List Ms.Opd} {k i:Nat} (hl:l.length<=10000) (hp:∀ o∈l,o.kind=1->KT idom T o.value k i) {Q:Ex->St->Prop} :
 ∀ (d j:Nat) (_:j+d=l.length) {hi:Hp} (_:Ok hi) {x14 x18 x20:AV}
  (hQ:∀ hj x14 x18 x20,Ok hj->hi.next<=hj.next->(∀ n,n<hi.next->hj.get n=hi.get n)->Q (.exit 4) (.mk [x0,.s (jae jlv idom),x2,x3,x4,x5,x6,x7,x8,x9,x10,x11,x12,x13,x14,vi i,vi k,.s (jae ji9 T),x18,.s (jae jbi l),x20,vi l.length,vi l.length,x23,x24,x25,x26,x27,x28,x29,x30,x31,x32,x33] hj)),
  W F9 jli.loop (.mk [x0,.s (jae jlv idom),x2,x3,x4,x5,x6,x7,x8,x9,x10,x11,x12,x13,x14,vi i,vi k,.s (jae ji9 T),x18,.s (jae jbi l),x20,vi l.length,vi j,x23,x24,x25,x26,x27,x28,x29,x30,x31,x32,x33] hi) Q
 | 0,j,hd,hi,ok,x14,x18,x20,hQ=>by
  obtain rfl:j=l.length:=by omega
  rw[jaj]
  unfold jli
  simp(disch:=first|omega|rfl) only[go_sem,f0s]
  exact hQ hi _ _ _ ok (f0d _) (fun _ _=>rfl)
 | d+1,j,hd,hi,ok,x14,x18,x20,hQ=>by
  have hlt:(j:Int)<(l.length:Int):=by omega
  obtain⟨o,hio⟩:∃ y,l[j]?=some y:=⟨_,f0b (by omega)⟩
  have ho:=hp o (f0c hio)
  have hix:=jah (enc:=jbi) (size:=5) hio rfl
  have hs:(j:Int)+1=((j+1:Nat):Int):=by omega
  obtain⟨hA,eA,okA,nA,xA,gA⟩:=jc2 ok [.int .i64 0,.int .i64 0,.bool false,.int .i64 0,.int .i64 0] (jbi o) 73
  unfold jbi at xA eA
  rw[jaj]
  unfold jli jyr
  by_cases e:o.kind=1
  .have c1:((o.kind:Int)=1)=True:=by simp;omega
   obtain⟨⟨pb,pn⟩,h1,h2⟩:=ho e
   have hxs:=jah (enc:=ji9) (size:=2) h1 rfl
   simp(disch:=first|omega|rfl) only[go_sem,jad,eq_true hlt,hix,jbi,eA,xA,c1,hxs,ji9,jy5 h2,hs]
   exact qbe hl hp d (j+1) (by omega) okA (fun hj x14 x18 x20 o n g=>hQ hj x14 x18 x20 o (by omega) (fun m hm=>(g m (by omega)).trans (gA m hm)))
  .have c1:((o.kind:Int)=1)=False:=by simp;omega
   simp(disch:=first|omega|rfl) only[go_sem,jad,eq_true hlt,hix,jbi,eA,xA,c1,hs]
   exact qbe hl hp d (j+1) (by omega) okA (fun hj x14 x18 x20 o n g=>hQ hj x14 x18 x20 o (by omega) (fun m hm=>(g m (by omega)).trans (gA m hm)))
theorem qgt {T:List (Nat×Int)} {l:List Ms.Ins} {k:Nat} (hl:l.length<=10000) (hp:∀ (i:Nat) (x:Ms.Ins),l[i]?=some x->x.ops.length<=6/\∀ o∈x.ops,o.kind=1->KT idom T o.value k i) {Q:Ex->St->Prop} :
 ∀ (d j:Nat) (_:j+d=l.length) {hi:Hp} (_:Ok hi) {x14 x15 x18 x19 x20 x21 x22 x23 x25:AV}
  (hQ:∀ hj x14 x15 x18 x19 x20 x21 x22 x23 x25,Ok hj->hi.next<=hj.next->(∀ n,n<hi.next->hj.get n=hi.get n)->Q (.exit 2) (.mk [x0,.s (jae jlv idom),x2,x3,x4,x5,x6,x7,x8,x9,x10,x11,x12,x13,x14,x15,vi k,.s (jae ji9 T),x18,x19,x20,x21,x22,x23,.s (jae jel l),x25,vi l.length,vi l.length,x28,x29,x30,x31,x32,x33] hj)),
  W F9 jlj.loop (.mk [x0,.s (jae jlv idom),x2,x3,x4,x5,x6,x7,x8,x9,x10,x11,x12,x13,x14,x15,vi k,.s (jae ji9 T),x18,x19,x20,x21,x22,x23,.s (jae jel l),x25,vi l.length,vi j,x28,x29,x30,x31,x32,x33] hi) Q
 | 0,j,hd,hi,ok,x14,x15,x18,x19,x20,x21,x22,x23,x25,hQ=>by
  obtain rfl:j=l.length:=by omega
  rw[jaj]
  unfold jlj
  simp(disch:=first|omega|rfl) only[go_sem,f0s]
  exact hQ hi _ _ _ _ _ _ _ _ _ ok (f0d _) (fun _ _=>rfl)
 | d+1,j,hd,hi,ok,x14,x15,x18,x19,x20,x21,x22,x23,x25,hQ=>by
  have hlt:(j:Int)<(l.length:Int):=by omega
  obtain⟨x,hio⟩:∃ y,l[j]?=some y:=⟨_,f0b (by omega)⟩
  obtain⟨hx1,hx2⟩:=hp j x hio
  have hix:=jah (enc:=jel) (size:=3) hio rfl
  have hs:(j:Int)+1=((j+1:Nat):Int):=by omega
  obtain⟨hA,eA,okA,nA,xA,gA⟩:=jc2 ok [.int .i64 0,.nilSlice,.nilSlice] (jel x) 59
  have l1:=jag (enc:=jbi) (l:=x.ops)
  unfold jel at xA eA
  rw[jaj]
  unfold jlj jys
  simp(disch:=first|omega|rfl) only[go_sem,jad,eq_true hlt,hix,jel,eA,xA,l1]
  refine qbe (by omega) hx2 x.ops.length 0 (by omega) okA (fun hj x14 x18 x20 o n g=>?_)
  simp(disch:=first|omega|rfl) only[go_sem,jad,hs]
  exact qgt hl hp d (j+1) (by omega) o (fun hk x14 x15 x18 x19 x20 x21 x22 x23 x25 o' n' g'=>hQ hk x14 x15 x18 x19 x20 x21 x22 x23 x25 o' (by omega) (fun m hm=>(g' m (by omega)).trans ((g m (by omega)).trans (gA m hm))))
theorem qgu {T:List (Nat×Int)} {l:List Nat} {b:Blk} {k:Nat} (hl:l.length<=10000) (hp:∀ v∈l,KT idom T v k b.instrs.length) {Q:Ex->St->Prop} :
 ∀ (d j:Nat) (_:j+d=l.length) {hi:Hp} (_:Ok hi) (_:hi.get bB=some (.arr [jae jaz b.params,jae jel b.instrs,jae jgf b.edges] 39)) {x3 x4 x6:AV}
  (hQ:∀ x3 x4 x6,Q (.exit 8) (.mk [x0,.s (jae jlv idom),x2,x3,x4,.s (jae jaz l),x6,vi l.length,vi l.length,x9,x10,x11,x12,x13,x14,x15,vi k,.s (jae ji9 T),x18,x19,x20,x21,x22,x23,x24,x25,x26,x27,.s (.ptr bB 0),x29,x30,x31,x32,x33] hi)),
  W F9 jlk.loop (.mk [x0,.s (jae jlv idom),x2,x3,x4,.s (jae jaz l),x6,vi l.length,vi j,x9,x10,x11,x12,x13,x14,x15,vi k,.s (jae ji9 T),x18,x19,x20,x21,x22,x23,x24,x25,x26,x27,.s (.ptr bB 0),x29,x30,x31,x32,x33] hi) Q
 | 0,j,hd,hi,ok,xB,x3,x4,x6,hQ=>by
  obtain rfl:j=l.length:=by omega
  rw[jaj]
  unfold jlk
  simp(disch:=first|omega|rfl) only[go_sem,f0s]
  exact hQ _ _ _
 | d+1,j,hd,hi,ok,xB,x3,x4,x6,hQ=>by
  have hlt:(j:Int)<(l.length:Int):=by omega
  obtain⟨v,hio⟩:∃ y,l[j]?=some y:=⟨_,f0b (by omega)⟩
  obtain⟨⟨pb,pn⟩,h1,h2⟩:=hp v (f0c hio)
  have hix:=jah (enc:=jaz) (size:=1) hio rfl
  have hxs:=jah (enc:=ji9) (size:=2) h1 rfl
  have hs:(j:Int)+1=((j+1:Nat):Int):=by omega
  have l1:=jag (enc:=jel) (l:=b.instrs)
  rw[jaj]
  unfold jlk jyu jyt
  simp(disch:=first|omega|rfl) only[go_sem,jad,eq_true hlt,hix,jaz,hxs,ji9,xB,l1,jy5 h2,hs]
  exact qgu hl hp d (j+1) (by omega) ok xB hQ
theorem qgv {T:List (Nat×Int)} {l:List Ms.Edg} {b:Blk} {k:Nat} (hl:l.length<=10000) (hp:∀ e∈l,e.args.length<=10000/\∀ v∈e.args,KT idom T v k b.instrs.length) {Q:Ex->St->Prop} :
 ∀ (d j:Nat) (_:j+d=l.length) {hi:Hp} (_:Ok hi) (_:bB<hi.next) (_:hi.get bB=some (.arr [jae jaz b.params,jae jel b.instrs,jae jgf b.edges] 39)) {x3 x4 x5 x6 x7 x8 x9 x11:AV}
  (hQ:∀ hj x3 x4 x5 x6 x7 x8 x9 x11,Ok hj->hi.next<=hj.next->(∀ n,n<hi.next->hj.get n=hi.get n)->Q (.exit 6) (.mk [x0,.s (jae jlv idom),x2,x3,x4,x5,x6,x7,x8,x9,.s (jae jgf l),x11,vi l.length,vi l.length,x14,x15,vi k,.s (jae ji9 T),x18,x19,x20,x21,x22,x23,x24,x25,x26,x27,.s (.ptr bB 0),x29,x30,x31,x32,x33] hj)),
  W F9 jll.loop (.mk [x0,.s (jae jlv idom),x2,x3,x4,x5,x6,x7,x8,x9,.s (jae jgf l),x11,vi l.length,vi j,x14,x15,vi k,.s (jae ji9 T),x18,x19,x20,x21,x22,x23,x24,x25,x26,x27,.s (.ptr bB 0),x29,x30,x31,x32,x33] hi) Q
 | 0,j,hd,hi,ok,hb,xB,x3,x4,x5,x6,x7,x8,x9,x11,hQ=>by
  obtain rfl:j=l.length:=by omega
  rw[jaj]
  unfold jll
  simp(disch:=first|omega|rfl) only[go_sem,f0s]
  exact hQ hi _ _ _ _ _ _ _ _ ok (f0d _) (fun _ _=>rfl)
 | d+1,j,hd,hi,ok,hb,xB,x3,x4,x5,x6,x7,x8,x9,x11,hQ=>by
  have hlt:(j:Int)<(l.length:Int):=by omega
  obtain⟨e,hio⟩:∃ y,l[j]?=some y:=⟨_,f0b (by omega)⟩
  obtain⟨he1,he2⟩:=hp e (f0c hio)
  have hix:=jah (enc:=jgf) (size:=2) hio rfl
  have hs:(j:Int)+1=((j+1:Nat):Int):=by omega
  obtain⟨hA,eA,okA,nA,xA,gA⟩:=jc2 ok [.int .i64 0,.nilSlice] (jgf e) 62
  have yB:=(gA _ hb).trans xB
  have l1:=jag (enc:=jaz) (l:=e.args)
  unfold jgf at xA eA
  rw[jaj]
  unfold jll jyv
  simp(disch:=first|omega|rfl) only[go_sem,jad,eq_true hlt,hix,jgf,eA,xA,l1]
  refine qgu he1 he2 e.args.length 0 (by omega) okA yB (fun x3 x4 x6=>?_)
  simp(disch:=first|omega|rfl) only[go_sem,jad,hs]
  exact qgv hl hp d (j+1) (by omega) okA (by omega) yB (fun hk x3 x4 x5 x6 x7 x8 x9 x11 o' n' g'=>hQ hk x3 x4 x5 x6 x7 x8 x9 x11 o' (by omega) (fun m hm=>(g' m (by omega)).trans (gA m hm)))
structure UsOk (idom:List Int) (f:Fc):Prop where
 nb:f.blocks.length<=10000
 sz:∀ b∈f.blocks,b.instrs.length<=10000/\b.edges.length<=10000
 us:∀ (k i:Nat) (b:Blk) (x:Ms.Ins),f.blocks[k]?=some b->b.instrs[i]?=some x->x.ops.length<=6/\∀ o∈x.ops,o.kind=1->KT idom (je1 f) o.value k i
 ed:∀ (k:Nat) (b:Blk) (e:Ms.Edg),f.blocks[k]?=some b->e∈b.edges->e.args.length<=10000/\∀ v∈e.args,KT idom (je1 f) v k b.instrs.length
theorem qgw {f:Fc} (u:UsOk idom f) {Q:Ex->St->Prop} :
 ∀ (d j:Nat) (_:j+d=f.blocks.length) {hi:Hp} (_:Ok hi) {x3 x4 x5 x6 x7 x8 x9 x10 x11 x12 x13 x14 x15 x16 x18 x19 x20 x21 x22 x23 x24 x25 x26 x27 x28 x30:AV}
  (hQ:∀ hj x3 x4 x5 x6 x7 x8 x9 x10 x11 x12 x13 x14 x15 x16 x18 x19 x20 x21 x22 x23 x24 x25 x26 x27 x28 x30,Q (.exit 0) (.mk [x0,.s (jae jlv idom),x2,x3,x4,x5,x6,x7,x8,x9,x10,x11,x12,x13,x14,x15,x16,.s (jae ji9 (je1 f)),x18,x19,x20,x21,x22,x23,x24,x25,x26,x27,x28,.s (jae ja3 f.blocks),x30,vi f.blocks.length,vi f.blocks.length,x33] hj)),
  W F9 jlm.loop (.mk [x0,.s (jae jlv idom),x2,x3,x4,x5,x6,x7,x8,x9,x10,x11,x12,x13,x14,x15,x16,.s (jae ji9 (je1 f)),x18,x19,x20,x21,x22,x23,x24,x25,x26,x27,x28,.s (jae ja3 f.blocks),x30,vi f.blocks.length,vi j,x33] hi) Q
 | 0,j,hd,hi,ok,x3,x4,x5,x6,x7,x8,x9,x10,x11,x12,x13,x14,x15,x16,x18,x19,x20,x21,x22,x23,x24,x25,x26,x27,x28,x30,hQ=>by
  obtain rfl:j=f.blocks.length:=by omega
  rw[jaj]
  unfold jlm
  simp(disch:=first|omega|rfl) only[go_sem,f0s]
  exact hQ hi ..
 | d+1,j,hd,hi,ok,x3,x4,x5,x6,x7,x8,x9,x10,x11,x12,x13,x14,x15,x16,x18,x19,x20,x21,x22,x23,x24,x25,x26,x27,x28,x30,hQ=>by
  have nb:=u.nb
  have hlt:(j:Int)<(f.blocks.length:Int):=by omega
  obtain⟨b,hio⟩:∃ y,f.blocks[j]?=some y:=⟨_,f0b (by omega)⟩
  obtain⟨s1,s2⟩:=u.sz b (f0c hio)
  have hix:=jah (enc:=ja3) (size:=3) hio rfl
  have hs:(j:Int)+1=((j+1:Nat):Int):=by omega
  obtain⟨hA,eA,okA,nA,xA,gA⟩:=jc2 ok [.nilSlice,.nilSlice,.nilSlice] (ja3 b) 39
  have l1:=jag (enc:=jel) (l:=b.instrs)
  have l2:=jag (enc:=jgf) (l:=b.edges)
  unfold ja3 at xA eA
  rw[jaj]
  unfold jlm jyw
  simp(disch:=first|omega|rfl) only[go_sem,jad,eq_true hlt,hix,ja3,eA,xA,l1]
  refine qgt s1 (fun i x hx=>u.us j i b x hio hx) b.instrs.length 0 (by omega) okA (fun hj x14 x15 x18 x19 x20 x21 x22 x23 x25 o n g=>?_)
  have yA:=(g _ (by omega)).trans xA
  simp(disch:=first|omega|rfl) only[go_sem,yA,l2]
  refine qgv s2 (fun e he=>u.ed j b e hio he) b.edges.length 0 (by omega) o (by omega) yA (fun hk x3 x4 x5 x6 x7 x8 x9 x11 o' n' g'=>?_)
  simp(disch:=first|omega|rfl) only[go_sem,jad,hs]
  exact qgw u d (j+1) (by omega) o' hQ
theorem qnr {h:Hp} {Q:AV->Hp->Prop} {f:Fc} (hl:f.blocks.length<=10000) (hv:f.values.length<=10000) (hne:f.values≠[]) (hp:∀ b∈f.blocks,b.params.length<=10000/\b.instrs.length<=10000/\(∀ v∈b.params,v<f.values.length)/\∀ x∈b.instrs,x.ops.length<=6/\∀ o∈x.ops,o.value<f.values.length) :
 WC F9 43 [.agg [jae jaz f.values,jae ja3 f.blocks]] h Q=Q (.s (jae ji9 (je1 f))) h :=
 jaq ((jbk rfl).trans (jbm rfl (by simp only[jat,ja1,jbd,jcw,ja2,jbe,jbb,jbq,jbf,jbn,if_true]) (qk1 jex hl hv hne hp)))
theorem qns {h:Hp} (ok:Ok h) {f:Fc} (u:UsOk idom f) (hv:f.values.length<=10000) (hne:f.values≠[]) (hp:∀ b∈f.blocks,b.params.length<=10000/\b.instrs.length<=10000/\(∀ v∈b.params,v<f.values.length)/\∀ x∈b.instrs,x.ops.length<=6/\∀ o∈x.ops,o.value<f.values.length) :
 WC F9 31 [.agg [jae jaz f.values,jae ja3 f.blocks],.s (jae jlv idom)] h (fun v h'=>∃ d,jhz true h' d v=some (vb true)):=by
 refine ja9 (no9 rfl rfl rfl rfl rfl rfl rfl rfl rfl) qkx rfl ?_
 unfold j4d
 obtain⟨hA,eA,okA,nA,xA,gA⟩:=je0 ok [jae jaz f.values,jae ja3 f.blocks] 29
 have l2:=jag (enc:=ja3) (l:=f.blocks)
 simp(disch:=first|omega|rfl) only[go_sem,eA,xA,qnr u.nb hv hne hp,l2]
 refine qgw u f.blocks.length 0 (by omega) okA (fun hj x3 x4 x5 x6 x7 x8 x9 x10 x11 x12 x13 x14 x15 x16 x18 x19 x20 x21 x22 x23 x24 x25 x26 x27 x28 x30=>?_)
 simp(disch:=first|omega|rfl) only[go_sem]
 exact⟨1,rfl⟩
theorem qvf:∀ (s:List Bool),s.length<=5->oG s
 | [],_=>o_
 | [false],_=>o_f
 | [true],_=>o_t
 | [false,false],_=>qxn
 | [false,true],_=>qxk
 | [true,false],_=>qxe
 | [true,true],_=>qxh
 | [false,false,false],_=>qvc
 | [false,false,true],_=>qu9
 | [false,true,false],_=>quu
 | [false,true,true],_=>qur
 | [true,false,false],_=>qu3
 | [true,false,true],_=>qu6
 | [true,true,false],_=>qux
 | [true,true,true],_=>qu0
 | [false,false,false,false],_=>qr0
 | [false,false,false,true],_=>qrr
 | [false,false,true,false],_=>qq6
 | [false,false,true,true],_=>qri
 | [false,true,false,false],_=>qrc
 | [false,true,false,true],_=>qro
 | [false,true,true,false],_=>qqx
 | [false,true,true,true],_=>qq3
 | [true,false,false,false],_=>qq0
 | [true,false,false,true],_=>qqu
 | [true,false,true,false],_=>qr3
 | [true,false,true,true],_=>qq9
 | [true,true,false,false],_=>qrx
 | [true,true,false,true],_=>qrf
 | [true,true,true,false],_=>qrl
 | [true,true,true,true],_=>qru
 | [false,false,false,false,false],_=>qme
 | [false,false,false,false,true],_=>qlb
 | [false,false,false,true,false],_=>qnn
 | [false,false,false,true,true],_=>qnh
 | [false,false,true,false,false],_=>qm8
 | [false,false,true,false,true],_=>qlk
 | [false,false,true,true,false],_=>qlw
 | [false,false,true,true,true],_=>qmz
 | [false,true,false,false,false],_=>qlz
 | [false,true,false,false,true],_=>ql8
 | [false,true,false,true,false],_=>qmn
 | [false,true,false,true,true],_=>qnb
 | [false,true,true,false,false],_=>qmw
 | [false,true,true,false,true],_=>qm2
 | [false,true,true,true,false],_=>qne
 | [false,true,true,true,true],_=>qle
 | [true,false,false,false,false],_=>qmb
 | [true,false,false,false,true],_=>qk8
 | [true,false,false,true,false],_=>qnk
 | [true,false,false,true,true],_=>qlh
 | [true,false,true,false,false],_=>qm5
 | [true,false,true,false,true],_=>qlt
 | [true,false,true,true,false],_=>ql5
 | [true,false,true,true,true],_=>qlq
 | [true,true,false,false,false],_=>qln
 | [true,true,false,false,true],_=>qmk
 | [true,true,false,true,false],_=>qmt
 | [true,true,false,true,true],_=>ql2
 | [true,true,true,false,false],_=>qk5
 | [true,true,true,false,true],_=>qmh
 | [true,true,true,true,false],_=>qmq
 | [true,true,true,true,true],_=>qk2
 | _::_::_::_::_::_::_,h=>absurd h (by simp)
theorem qvg:∀ (s:List Bool),s.length<=5->nG s
 | [],_=>n_
 | [false],_=>n_f
 | [true],_=>n_t
 | [false,false],_=>qxo
 | [false,true],_=>qxl
 | [true,false],_=>qxf
 | [true,true],_=>qxi
 | [false,false,false],_=>qvd
 | [false,false,true],_=>qva
 | [false,true,false],_=>quv
 | [false,true,true],_=>qus
 | [true,false,false],_=>qu4
 | [true,false,true],_=>qu7
 | [true,true,false],_=>quy
 | [true,true,true],_=>qu1
 | [false,false,false,false],_=>qr1
 | [false,false,false,true],_=>qrs
 | [false,false,true,false],_=>qq7
 | [false,false,true,true],_=>qrj
 | [false,true,false,false],_=>qrd
 | [false,true,false,true],_=>qrp
 | [false,true,true,false],_=>qqy
 | [false,true,true,true],_=>qq4
 | [true,false,false,false],_=>qq1
 | [true,false,false,true],_=>qqv
 | [true,false,true,false],_=>qr4
 | [true,false,true,true],_=>qra
 | [true,true,false,false],_=>qry
 | [true,true,false,true],_=>qrg
 | [true,true,true,false],_=>qrm
 | [true,true,true,true],_=>qrv
 | [false,false,false,false,false],_=>qmf
 | [false,false,false,false,true],_=>qlc
 | [false,false,false,true,false],_=>qno
 | [false,false,false,true,true],_=>qni
 | [false,false,true,false,false],_=>qm9
 | [false,false,true,false,true],_=>qll
 | [false,false,true,true,false],_=>qlx
 | [false,false,true,true,true],_=>qm0
 | [false,true,false,false,false],_=>ql0
 | [false,true,false,false,true],_=>ql9
 | [false,true,false,true,false],_=>qmo
 | [false,true,false,true,true],_=>qnc
 | [false,true,true,false,false],_=>qmx
 | [false,true,true,false,true],_=>qm3
 | [false,true,true,true,false],_=>qnf
 | [false,true,true,true,true],_=>qlf
 | [true,false,false,false,false],_=>qmc
 | [true,false,false,false,true],_=>qk9
 | [true,false,false,true,false],_=>qnl
 | [true,false,false,true,true],_=>qli
 | [true,false,true,false,false],_=>qm6
 | [true,false,true,false,true],_=>qlu
 | [true,false,true,true,false],_=>ql6
 | [true,false,true,true,true],_=>qlr
 | [true,true,false,false,false],_=>qlo
 | [true,true,false,false,true],_=>qml
 | [true,true,false,true,false],_=>qmu
 | [true,true,false,true,true],_=>ql3
 | [true,true,true,false,false],_=>qk6
 | [true,true,true,false,true],_=>qmi
 | [true,true,true,true,false],_=>qmr
 | [true,true,true,true,true],_=>qk3
 | _::_::_::_::_::_::_,h=>absurd h (by simp)
theorem qvh:∀ (s:List Bool),s.length<=5->iG s
 | [],_=>i_
 | [false],_=>i_f
 | [true],_=>i_t
 | [false,false],_=>qxp
 | [false,true],_=>qxm
 | [true,false],_=>qxg
 | [true,true],_=>qxj
 | [false,false,false],_=>qve
 | [false,false,true],_=>qvb
 | [false,true,false],_=>quw
 | [false,true,true],_=>qut
 | [true,false,false],_=>qu5
 | [true,false,true],_=>qu8
 | [true,true,false],_=>quz
 | [true,true,true],_=>qu2
 | [false,false,false,false],_=>qr2
 | [false,false,false,true],_=>qrt
 | [false,false,true,false],_=>qq8
 | [false,false,true,true],_=>qrk
 | [false,true,false,false],_=>qre
 | [false,true,false,true],_=>qrq
 | [false,true,true,false],_=>qqz
 | [false,true,true,true],_=>qq5
 | [true,false,false,false],_=>qq2
 | [true,false,false,true],_=>qqw
 | [true,false,true,false],_=>qr5
 | [true,false,true,true],_=>qrb
 | [true,true,false,false],_=>qrz
 | [true,true,false,true],_=>qrh
 | [true,true,true,false],_=>qrn
 | [true,true,true,true],_=>qrw
 | [false,false,false,false,false],_=>qmg
 | [false,false,false,false,true],_=>qld
 | [false,false,false,true,false],_=>qnp
 | [false,false,false,true,true],_=>qnj
 | [false,false,true,false,false],_=>qna
 | [false,false,true,false,true],_=>qlm
 | [false,false,true,true,false],_=>qly
 | [false,false,true,true,true],_=>qm1
 | [false,true,false,false,false],_=>ql1
 | [false,true,false,false,true],_=>qma
 | [false,true,false,true,false],_=>qmp
 | [false,true,false,true,true],_=>qnd
 | [false,true,true,false,false],_=>qmy
 | [false,true,true,false,true],_=>qm4
 | [false,true,true,true,false],_=>qng
 | [false,true,true,true,true],_=>qlg
 | [true,false,false,false,false],_=>qmd
 | [true,false,false,false,true],_=>qla
 | [true,false,false,true,false],_=>qnm
 | [true,false,false,true,true],_=>qlj
 | [true,false,true,false,false],_=>qm7
 | [true,false,true,false,true],_=>qlv
 | [true,false,true,true,false],_=>ql7
 | [true,false,true,true,true],_=>qls
 | [true,true,false,false,false],_=>qlp
 | [true,true,false,false,true],_=>qmm
 | [true,true,false,true,false],_=>qmv
 | [true,true,false,true,true],_=>ql4
 | [true,true,true,false,false],_=>qk7
 | [true,true,true,false,true],_=>qmj
 | [true,true,true,true,false],_=>qms
 | [true,true,true,true,true],_=>qk4
 | _::_::_::_::_::_::_,h=>absurd h (by simp)
theorem j1u {α β:Type} (g:α->β):∀ (l:List α),(l.map (fun v=>(v,g v))).map (·.1)=l
 | []=>rfl
 | a::l=>congrArg (a::·) (j1u g l)
theorem qeh (b i:Nat) (ops:List Ms.Opd):(evO b i ops).map (·.1)=dfO ops:=j1u _ _
theorem j4g (b:Nat):∀ (l:List Ms.Ins) (i:Nat),(evI b i l).map (·.1)=(l.map jdf).flatten
 | [],i=>rfl
 | x::l,i=>by
  unfold evI
  rw[List.map_append,qeh,j4g b l]
  rfl
theorem jwg:∀ (l:List Blk) (k:Nat),(evL k l).map (·.1)=jdl l
 | [],k=>rfl
 | b::l,k=>by
  unfold evL evB evP
  rw[List.map_append,List.map_append,j4g,jwg l,j1u]
  simp[jdl,jr2]
theorem qbf {b:Nat} {y:Ms.Ins} (hv:v∈jdf y):∀ {l:List Ms.Ins} {i j:Nat},l[i]?=some y->(v,(b,((j+i:Nat):Int)))∈evI b j l
 | [],i,j,h=>by simp at h
 | x::l,0,j,h=>by
  simp only[f1a,Option.some.injEq] at h
  subst h
  unfold evI
  exact f1e _ (f19.2 ⟨v,hv,rfl⟩)
 | x::l,i+1,j,h=>by
  simp only[f2t] at h
  unfold evI
  have:=qbf (b:=b) hv (j:=j+1) h
  rw[show j+1+i=j+(i+1) by omega] at this
  exact f03 _ this
theorem qbg {b:Nat}:∀ {l:List Blk} {k:Nat} {i:Nat},b=k+i->j1s l v i n->(v,(b,n))∈evL k l
 | [],k,i,e,h=>by
  obtain⟨x,h1,_⟩:=h
  simp at h1
 | x::l,k,0,e,h=>by
  obtain⟨y,h1,h2⟩:=h
  simp only[f1a,Option.some.injEq] at h1
  subst h1
  rw[f1i] at e
  subst e
  unfold evL evB
  refine f1e _ ?_
  rcases h2 with⟨rfl,h2⟩ | ⟨i,y,rfl,h2,h3⟩
  .exact f1e _ (f19.2 ⟨v,h2,rfl⟩)
  .have:=qbf (b:=b) h3 (j:=0) h2
   rw[f0z] at this
   exact f03 _ this
 | x::l,k,i+1,e,h=>by
  unfold evL
  refine f03 _ (qbg (i:=i) (by omega) ?_)
  obtain⟨y,h1,h2⟩:=h
  exact⟨y,by simpa using h1,h2⟩
theorem qbh:∀ (l:List (Nat×(Nat×Int))) (T:List (Nat×Int)),v∉l.map (·.1)->(spF T l)[v]?=T[v]?
 | [],T,_=>rfl
 | e::l,T,h=>by
  simp only[f1k,f0j,not_or] at h
  show(spF (T.set e.1 e.2) l)[v]?=_
  rw[qbh l _ h.2,f1s (fun x=>h.1 x.symm)]
theorem qbi {p:Nat×Int}:∀ (l:List (Nat×(Nat×Int))) (T:List (Nat×Int)),(l.map (·.1)).Nodup->v<T.length->(v,p)∈l->(spF T l)[v]?=some p
 | [],T,_,_,h=>by cases h
 | e::l,T,hd,hv,h=>by
  rw[f1k,f0w] at hd
  show(spF (T.set e.1 e.2) l)[v]?=_
  rcases f0j.1 h with rfl | h
  .rw [qbh l _ hd.1,List.getElem?_set_self hv]
  .exact qbi l _ hd.2 (by rw[f3k];exact hv) h
theorem qei {f:Fc} (hm:(jdl f.blocks).Perm (List.range f.values.length)) {b:Nat} (h:j1s f.blocks v b n):(je1 f)[v]?=some (b,n):=by
 have hmem:=qbg (k:=0) (i:=b) (f0z b).symm h
 have hk:v∈jdl f.blocks:=by rw[←jwg f.blocks 0];exact f19.2 ⟨_,hmem,rfl⟩
 have hv:v<f.values.length:=List.mem_range.1 (hm.mem_iff.1 hk)
 unfold je1
 exact qbi _ _ (by rw[jwg];exact hm.nodup_iff.2 List.nodup_range) (by rw[f2k];exact hv) hmem
theorem jwb.kt {f:Fc} (hm:(jdl f.blocks).Perm (List.range f.values.length)) {k i:Nat} (h:jwb idom f.blocks v k i):KT idom (je1 f) v k i:=by
 obtain⟨b,n,h1,h2⟩:=h
 exact⟨(b,n),qei hm h1,h2⟩
def gPs (l:List Blk) (k:Nat):SV:=jae jaz (l.getD k jhp).params
def gIs (l:List Blk) (k:Nat):SV:=jae jel (l.getD k jhp).instrs
def gAs (l:List Blk) (k j:Nat):SV:=jae jaz ((l.getD k jhp).edges.getD j ⟨0,[]⟩).args
theorem qbj (a:Nat->SV):∀ (r p:List Ms.Edg),(∀ j,a j=jae jaz ((p++r).getD j ⟨0,[]⟩).args)->qsv a p.length (r.map (·.block))=r.map jgf
 | [],p,h=>rfl
 | e::r,p,h=>by
  show[si e.block,a p.length]::qsv a (p.length+1) (r.map (·.block))=jgf e::r.map jgf
  have h1:a p.length=jae jaz e.args:=by
   rw[h,f0f,f0u (f0d _)];simp
  have h2:=qbj a r (p++[e]) (fun j=>by rw[h];simp)
  rw[f0k] at h2
  rw[h1]
  exact congrArg _ h2
theorem qnt (a:Nat->SV) (l:List Ms.Edg) (h:∀ j,a j=jae jaz (l.getD j ⟨0,[]⟩).args):qsw a (l.map (·.block))=jae jgf l:=by
 cases l with
 | nil=>rfl
 | cons e r =>
  have:=qbj a (e::r) [] (by simpa using h)
  exact congrArg SV.lst this
theorem j4h (l:List Blk):∀ (r p:List Blk),p++r=l->qa1 (gPs l) (gIs l) (gAs l) p.length (grL r)=r.map ja3
 | [],p,h=>rfl
 | b::r,p,h=>by
  have hb:l.getD p.length jhp=b:=by rw[←h,f0f,f0u (f0d _)];simp
  show[gPs l p.length,gIs l p.length,qsw (gAs l p.length) (qgl b)]::qa1 (gPs l) (gIs l) (gAs l) (p.length+1) (grL r)=ja3 b::r.map ja3
  have h1:qsw (gAs l p.length) (qgl b)=jae jgf b.edges:=qnt _ _ (fun j=>by unfold gAs;rw[hb])
  have h2:=j4h l r (p++[b]) (by rw[←h];simp)
  rw[f0k] at h2
  rw[h1]
  unfold gPs gIs
  rw[hb]
  exact congrArg _ h2
theorem j1v {f:Fc} (hne:f.blocks≠[]):[jae jaz f.values,jae ja3 f.blocks]=qsx (grL f.blocks) (jae jaz f.values) (gPs f.blocks) (gIs f.blocks) (gAs f.blocks):=by
 have h:=j4h f.blocks f.blocks [] rfl
 unfold qsx
 rw[show qa1 (gPs f.blocks) (gIs f.blocks) (gAs f.blocks) 0 (grL f.blocks)=f.blocks.map ja3 from h]
 cases e:f.blocks with
 | nil=>exact absurd e hne
 | cons b r=>rfl
section
variable {f:Fc} {s:List Bool} {h:Hp} {Q:AV->Hp->Prop}
theorem qej (hs:s.length<=5) (hg:grL f.blocks=gS s) (hne:f.blocks≠[]):jdx F8 29 [.agg [jae jaz f.values,jae ja3 f.blocks]] h=some (.s (jae jaz (qa0 s 0)),h) :=
 jbm rfl (by simp only[jat,ja1,jbd,jcw,ja2,jbe,jbb,jbq,jbf,jbn,if_true]) (by rw[j1v hne,hg];exact jrj (qvf s hs _ _ _ _))
theorem qnu (hs:s.length<=5) (hg:grL f.blocks=gS s) (hne:f.blocks≠[]):jdx F8 30 [.agg [jae jaz f.values,jae ja3 f.blocks]] h=some (.s (jae jr6 (j53 (gS s))),h) :=
 jbm rfl (by simp only[jat,ja1,jbd,jcw,ja2,jbe,jbb,jbq,jbf,jbn,if_true]) (by rw[j1v hne,hg];exact jrj (qvg s hs _ _ _ _))
theorem qek (hs:s.length<=5) (hg:grL f.blocks=gS s) (hne:f.blocks≠[]):jdx F8 32 [.agg [jae jaz f.values,jae ja3 f.blocks],.s (jae jaz (qa0 s 0))] h=some (.s (jae jlv (jh0 s)),h) :=
 jbm rfl (by simp only[jat,ja1,jbd,jcw,ja2,jbe,jbb,jbq,jbf,jbn,if_true]) (by rw[j1v hne,hg];exact jrj (qvh s hs _ _ _ _))
end
def shp:Nat->List (List Bool)
 | 0=>[[]]
 | n+1=>[]::((shp n).map (false::·)++(shp n).map (true::·))
theorem qbk:∀ (n:Nat) (s:List Bool),s.length<=n->s∈shp n
 | 0,s,h=>by
  have:=f1n (Nat.le_zero.1 h)
  subst this;exact f0q.2 rfl
 | n+1,[],h=>by unfold shp;simp
 | n+1,b::s,h=>by
  have:=qbk n s (by simpa using h)
  unfold shp
  refine f04 _ (f0e.2 ?_)
  cases b
  .exact .inl (f19.2 ⟨s,this,rfl⟩)
  .exact .inr (f19.2 ⟨s,this,rfl⟩)
theorem qnv {P:List Bool->Bool} (h:(shp 5).all P=true) {s:List Bool} (hs:s.length<=5):P s=true:=f3b.1 h s (qbk 5 s hs)
def qv9 (g:List (List Nat)):Bool:=g.all (fun es=>es.length<=1||es.all (fun t=>((j53 g).getD t [0,0]).length<=1))
theorem qel:(shp 5).all (fun s=>qv9 (gS s))=true:=by kernel_rfl
theorem jwh:∀ (s:List Bool) (c:Nat),(qa0 s c).length=1+3*s.length
 | [],c=>rfl
 | false::s,c=>by simp[qa0,jwh s];omega
 | true::s,c=>by simp[qa0,jwh s];omega
structure FlG (m:Nat×Nat) (f:Fc) (s:List Bool):Prop where
 k:FcOk m f
 on:jna f=0
 hs:s.length<=5
 hg:grL f.blocks=gS s
 hv:f.values≠[]
structure FlOk (m:Nat×Nat) (f:Fc) (s:List Bool):Prop extends FlG m f s where
 us:UsOk (jh0 s) f
theorem FlG.hne {m:Nat×Nat} {f:Fc} {s:List Bool} (o:FlG m f s):f.blocks≠[]:=f1w.1 (by have:=o.k.nb;omega)
theorem FlOk.len {m:Nat×Nat} {f:Fc} {s:List Bool} (o:FlOk m f s):f.blocks.length=1+3*s.length:=by rw[←jd9,o.hg,j4c]
theorem qnw {m:Nat×Nat} (m1:2<=m.1/\m.1<=10) (m2:2<=m.2/\m.2<=10) (l:List Pc):∃ s,FlOk m (jct m l) s/\(jdl (jct m l).blocks).Perm (List.range (jct m l).values.length) /\
 (∀ (k i:Nat) (b:Blk) (x:Ms.Ins) (o:Ms.Opd),(jct m l).blocks[k]?=some b->b.instrs[i]?=some x->o∈x.ops->o.kind=1->jwb (jh0 s) (jct m l).blocks o.value k i):=by
 obtain⟨k,kp,_⟩:=j23 m1 m2 l
 obtain⟨s,h1,h2,h3,h4⟩:=j54 m1 m2 l
 have hv:(jct m l).values≠[]:=by
  obtain⟨b,g,c,n,_⟩:=((jlc m1 m2).pieces (l.take 24)).bd.lay ⟨0,0,1,0,0,0,3⟩
  obtain⟨_,_,_,_,_,_,_,_,cs,e1,e2,_⟩:=qjd ((jlc m1 m2).pieces (l.take 24)).v ⟨0,0,1,0,0,0,3⟩
  have:(jct m l).values=(jcu ((l.take 24).foldl jbz (jbu m)) ⟨0,0,1,0,0,0,3⟩).values:=rfl
  rw[this,e2]
  rcases e1 with rfl | rfl<;>simp
 refine⟨s,⟨⟨k,qec kp,h1,h2,hv⟩,⟨by have:=k.nb;omega,fun b hb=>by have:=k.blk b hb;omega,fun a i b x hb hx=>⟨(k.ins b (f0c hb) x (f0c hx)).nops,fun o ho hk=>jwb.kt kp (h3 a i b x o hb hx ho hk)⟩,fun a b e hb he=>⟨?_,fun v hv=>jwb.kt kp (h4 a b e v hb he hv)⟩⟩⟩,kp,h3⟩
 obtain⟨_,_,t,h5,h6,_⟩:=k.edg b (f0c hb) e he
 have h7:=(k.blk t (f0c h5)).1
 have:=congrArg List.length h6
 simp only[f1d] at this
 omega
def S10 (f:FuncId):Bool:=Nat.beq f 31
def F10:Fns:=PX S10 F9
theorem qvi {A:Nat->Int}:Env Tryd.prog A tys F10:=jhx qxr
theorem qwa {f:FuncId} (h1:S1 f=false) (h2:Nat.beq f jg9.f=false) (h3:S3 f=false) (h4:S4 f=false) (h5:S5 f=false) (h6:S6 f=false) (h7:S7 f=false) (h8:S8 f=false) (h9:S9 f=false) (h10:S10 f=false) {h:Hp}:jdx F10 f vs h=none:=(jbk h10).trans (no9 h1 h2 h3 h4 h5 h6 h7 h8 h9)
section
variable {h:Hp} {m:Nat×Nat} {f:Fc} {s:List Bool} {Q:AV->Hp->Prop}
theorem qnx {g:FuncId} (h9:S9 g=false) (h10:S10 g=false):jdx F10 g vs h=jdx F8 g vs h:=(jbk h10).trans (jbk h9)
theorem qem (k:FcOk m f) (on:jna f=0) (m1:2<=m.1/\m.1<=10) (m2:2<=m.2/\m.2<=10):WC F10 28 [.agg [jae jaz f.values,jae ja3 f.blocks],.agg [si m.1,si m.2]] h Q=Q (vi 0) h :=
 jaq ((qnx rfl rfl).trans ((jbk rfl).trans (by rw[qqr k m1 m2,on];rfl)))
theorem j55 (o:FlG m f s):WC F10 29 [.agg [jae jaz f.values,jae ja3 f.blocks]] h Q=Q (.s (jae jaz (qa0 s 0))) h:=jaq ((qnx rfl rfl).trans (qej o.hs o.hg o.hne))
theorem qbl (o:FlG m f s):WC F10 30 [.agg [jae jaz f.values,jae ja3 f.blocks]] h Q=Q (.s (jae jr6 (j53 (gS s)))) h:=jaq ((qnx rfl rfl).trans (qnu o.hs o.hg o.hne))
theorem j56 (o:FlG m f s):WC F10 32 [.agg [jae jaz f.values,jae ja3 f.blocks],.s (jae jaz (qa0 s 0))] h Q=Q (.s (jae jlv (jh0 s))) h:=jaq ((qnx rfl rfl).trans (qek o.hs o.hg o.hne))
theorem qen (o:FlOk m f s):WC F10 31 [.agg [jae jaz f.values,jae ja3 f.blocks],.s (jae jlv (jh0 s))] h Q=Q (vb true) h :=
 jaq (jbm rfl (by simp only[jat,ja1,jbd,jcw,ja2,jbe,jbb,jbq,jbf,jbn,if_true]) (qns jex o.us (by have:=o.k.nv;omega) o.hv (qax o.k)))
end
theorem FlG.pred {m:Nat×Nat} {f:Fc} {s:List Bool} (o:FlG m f s) {b:Blk} (hb:b∈f.blocks) (h:1<b.edges.length) {e:Ms.Edg} (he:e∈b.edges):∃ pl,(j53 (gS s))[e.block]?=some pl/\pl.length<=1:=by
 have h1:=qnv qel o.hs
 unfold qv9 at h1
 rw[f3b] at h1
 have h2:=h1 (qgl b) (by rw[←o.hg];exact f19.2 ⟨b,hb,rfl⟩)
 simp only[f2v,decide_eq_true_eq,f3b] at h2
 have h3:=h2.resolve_left (by unfold qgl;rw[f1d];omega) e.block (f19.2 ⟨e,he,rfl⟩)
 rw[f0f] at h3
 cases hq:(j53 (gS s))[e.block]? with
 | none=>rw[hq] at h3;simp at h3
 | some pl=>rw[hq] at h3;exact⟨pl,rfl,h3⟩
theorem qbm {m:Nat×Nat} {f:Fc} (k:FcOk m f) {IL:List (List Nat)} (pr:∀ b∈f.blocks,1<b.edges.length->∀ e∈b.edges,∃ pl,IL[e.block]?=some pl/\pl.length<=1) {b:Blk} (hb:b∈f.blocks) {Q:Ex->St->Prop} :
 ∀ (d j:Nat) (_:j+d=b.edges.length) {hi:Hp} (_:Ok hi) (_:bB<hi.next) (_:hi.get bB=some (.arr [jae jaz b.params,jae jel b.instrs,jae jgf b.edges] 39)) {x4 x5 x8:AV}
  (hQ:∀ hj x4 x5 x8,Ok hj->hi.next<=hj.next->(∀ n,n<hi.next->hj.get n=hi.get n)->Q (.exit 2) (.mk [x0,x1,x2,x3,x4,x5,.s (jae jr6 (IL)),.s (jae jgf b.edges),x8,vi b.edges.length,vi b.edges.length,.s (.ptr bB 0),x12,x13,x14,x15,x16,x17,x18,x19,x20] hj)),
  W F10 jln.loop (.mk [x0,x1,x2,x3,x4,x5,.s (jae jr6 (IL)),.s (jae jgf b.edges),x8,vi b.edges.length,vi j,.s (.ptr bB 0),x12,x13,x14,x15,x16,x17,x18,x19,x20] hi) Q
 | 0,j,hd,hi,ok,hB,xB,x4,x5,x8,hQ=>by
  obtain rfl:j=b.edges.length:=by omega
  rw[jaj]
  unfold jln
  simp(disch:=first|omega|rfl) only[go_sem,f0s]
  exact hQ hi _ _ _ ok (f0d _) (fun _ _=>rfl)
 | d+1,j,hd,hi,ok,hB,xB,x4,x5,x8,hQ=>by
  have hlt:(j:Int)<(b.edges.length:Int):=by omega
  have hne:=(k.blk b hb).2.2
  obtain⟨e,hio⟩:∃ y,b.edges[j]?=some y:=⟨_,f0b (by omega)⟩
  have hix:=jah (enc:=jgf) (size:=2) hio rfl
  have hs:(j:Int)+1=((j+1:Nat):Int):=by omega
  obtain⟨hA,eA,okA,nA,xA,gA⟩:=jc2 ok [.int .i64 0,.nilSlice] (jgf e) 62
  have yB:=(gA _ hB).trans xB
  have l2:=jag (enc:=jgf) (l:=b.edges)
  unfold jgf at xA eA
  rw[jaj]
  unfold jln jyz
  by_cases h1:1<b.edges.length
  .have c1:(1<(b.edges.length:Int))=True:=by simp;omega
   obtain⟨pl,h2,h3⟩:=pr b hb h1 e (f0c hio)
   have hxp:=jah (enc:=jr6) (size:=1) h2 rfl
   have l3:=jag (enc:=jaz) (l:=pl)
   have c2:(1<(pl.length:Int))=False:=by simp;omega
   simp(disch:=first|omega|rfl) only[go_sem,jad,eq_true hlt,hix,jgf,eA,xA,yB,l2,c1,hxp,jr6,l3,c2,hs]
   exact qbm k pr hb d (j+1) (by omega) okA (by omega) yB (fun hj x4 x5 x8 ok' n g=>hQ hj x4 x5 x8 ok' (by omega) (fun q hq=>(g q (by omega)).trans (gA q hq)))
  .have c1:(1<(b.edges.length:Int))=False:=by simp;omega
   simp(disch:=first|omega|rfl) only[go_sem,jad,eq_true hlt,hix,jgf,eA,xA,yB,l2,c1,hs]
   exact qbm k pr hb d (j+1) (by omega) okA (by omega) yB (fun hj x4 x5 x8 ok' n g=>hQ hj x4 x5 x8 ok' (by omega) (fun q hq=>(g q (by omega)).trans (gA q hq)))
theorem qgx {m:Nat×Nat} {f:Fc} (k:FcOk m f) {IL:List (List Nat)} (pr:∀ b∈f.blocks,1<b.edges.length->∀ e∈b.edges,∃ pl,IL[e.block]?=some pl/\pl.length<=1) {bF:Nat} {Q:Ex->St->Prop} :
 ∀ (d j:Nat) (_:j+d=f.blocks.length) {hi:Hp} (_:Ok hi) (_:bF<hi.next) {x4 x5 x7 x8 x9 x10 x11 x13:AV}
  (hQ:∀ hj x4 x5 x7 x8 x9 x10 x11 x13,Ok hj->hi.next<=hj.next->hj.get bF=hi.get bF->Q (.exit 0) (.mk [x0,x1,x2,x3,x4,x5,.s (jae jr6 (IL)),x7,x8,x9,x10,x11,.s (jae ja3 f.blocks),x13,vi f.blocks.length,vi f.blocks.length,x16,x17,x18,x19,.s (.ptr bF 0)] hj)),
  W F10 jlp.loop (.mk [x0,x1,x2,x3,x4,x5,.s (jae jr6 (IL)),x7,x8,x9,x10,x11,.s (jae ja3 f.blocks),x13,vi f.blocks.length,vi j,x16,x17,x18,x19,.s (.ptr bF 0)] hi) Q
 | 0,j,hd,hi,ok,hB,x4,x5,x7,x8,x9,x10,x11,x13,hQ=>by
  obtain rfl:j=f.blocks.length:=by omega
  rw[jaj]
  unfold jlp
  simp(disch:=first|omega|rfl) only[go_sem,f0s]
  exact hQ hi _ _ _ _ _ _ _ _ ok (f0d _) rfl
 | d+1,j,hd,hi,ok,hB,x4,x5,x7,x8,x9,x10,x11,x13,hQ=>by
  have nb:=k.nb
  have hlt:(j:Int)<(f.blocks.length:Int):=by omega
  obtain⟨b,hio⟩:∃ y,f.blocks[j]?=some y:=⟨_,f0b (by omega)⟩
  have hbm:=f0c hio
  have hix:=jah (enc:=ja3) (size:=3) hio rfl
  have hs:(j:Int)+1=((j+1:Nat):Int):=by omega
  obtain⟨hA,eA,okA,nA,xA,gA⟩:=jc2 ok [.nilSlice,.nilSlice,.nilSlice] (ja3 b) 39
  have l2:=jag (enc:=jgf) (l:=b.edges)
  unfold ja3 at xA eA
  rw[jaj]
  unfold jlp jy0
  simp(disch:=first|omega|rfl) only[go_sem,jad,eq_true hlt,hix,ja3,eA,xA,l2]
  refine qbm k pr hbm b.edges.length 0 (by omega) okA (by omega) xA (fun hj x4 x5 x8 ok' n g=>?_)
  simp(disch:=first|omega|rfl) only[go_sem,jad,hs]
  exact qgx k pr d (j+1) (by omega) ok' (by omega) (fun hk x4 x5 x7 x8 x9 x10 x11 x13 o' n' g'=>hQ hk x4 x5 x7 x8 x9 x10 x11 x13 o' (by omega) (g'.trans ((g _ (by omega)).trans (gA _ hB))))
theorem qeo {h:Hp} (ok:Ok h) {m:Nat×Nat} {f:Fc} (k:FcOk m f) (on:jna f=0) (m1:2<=m.1/\m.1<=10) (m2:2<=m.2/\m.2<=10) {IL:List (List Nat)} {O:List Nat} {D:List Int} {r:Bool} (pr:∀ b∈f.blocks,1<b.edges.length->∀ e∈b.edges,∃ pl,IL[e.block]?=some pl/\pl.length<=1) (hl:f.blocks.length<=O.length)
 (hO:∀ h Q,WC F10 29 [.agg [jae jaz f.values,jae ja3 f.blocks]] h Q=Q (.s (jae jaz O)) h) (hI:∀ h Q,WC F10 30 [.agg [jae jaz f.values,jae ja3 f.blocks]] h Q=Q (.s (jae jr6 IL)) h)
 (hD:∀ h Q,WC F10 32 [.agg [jae jaz f.values,jae ja3 f.blocks],.s (jae jaz O)] h Q=Q (.s (jae jlv D)) h) (hU:∀ h Q,WC F10 31 [.agg [jae jaz f.values,jae ja3 f.blocks],.s (jae jlv D)] h Q=Q (vb r) h) :
 WC F10 20 [.agg [jae jaz f.values,jae ja3 f.blocks],.agg [si m.1,si m.2]] h (fun v h'=>∃ d,jhz true h' d v=some (vi (Bool.rec 10 0 r))):=by
 refine ja9 (qwa rfl rfl rfl rfl rfl rfl rfl rfl rfl rfl) qkz rfl ?_
 unfold j4f
 obtain⟨hA,eA,okA,nA,xA,gA⟩:=je0 ok [jae jaz f.values,jae ja3 f.blocks] 29
 obtain⟨hB,eB,okB,nB,xB,gB⟩:=je0 okA [si m.1,si m.2] 25
 have yA:=(gB _ (by omega)).trans xA
 rw[nA] at xB
 have l2:=jag (enc:=ja3) (l:=f.blocks)
 have l3:=jag (enc:=jaz) (l:=O)
 have c1:((O.length:Int)<(f.blocks.length:Int))=False:=eq_false (by omega)
 have hh:(hB.next<=h.next/\h.next<hB.next)=False:=eq_false (by omega)
 simp(disch:=first|omega|rfl) only[go_sem,eA,eB,nA,yA,xB,qem k on m1 m2]
 unfold jy4 jyy
 simp(disch:=first|omega|rfl) only[go_sem,yA,xB,hO,l3,l2,c1,hh]
 unfold jy3
 simp(disch:=first|omega|rfl) only[go_sem,yA,hI,l2]
 refine qgx k pr f.blocks.length 0 (by omega) okB (by omega) (fun hj x4 x5 x7 x8 x9 x10 x11 x13 o' n g=>?_)
 have zA:=g.trans yA
 have hh:(hj.next<=h.next/\h.next<hj.next)=False:=eq_false (by omega)
 unfold jy1
 cases r with
 | false =>
  simp(disch:=first|omega|rfl) only[go_sem,zA,hO,hD,hU,hh]
  exact⟨1,rfl⟩
 | true =>
  simp(disch:=first|omega|rfl) only[go_sem,zA,hO,hD,hU,hh]
  unfold jy2
  simp(disch:=first|omega|rfl) only[go_sem]
  exact⟨1,rfl⟩
theorem FlG.fck {h:Hp} (ok:Ok h) {m:Nat×Nat} {f:Fc} {s:List Bool} (o:FlG m f s) (m1:2<=m.1/\m.1<=10) (m2:2<=m.2/\m.2<=10) {r:Bool} (hU:∀ h Q,WC F10 31 [.agg [jae jaz f.values,jae ja3 f.blocks],.s (jae jlv (jh0 s))] h Q=Q (vb r) h) :
 WC F10 20 [.agg [jae jaz f.values,jae ja3 f.blocks],.agg [si m.1,si m.2]] h (fun v h'=>∃ d,jhz true h' d v=some (vi (Bool.rec 10 0 r))) :=
 qeo ok o.k o.on m1 m2 (fun b hb h1 e he=>o.pred hb h1 he) (by rw[jwh,←jd9,o.hg,j4c];exact f0d _) (fun _ _=>j55 o) (fun _ _=>qbl o) (fun _ _=>j56 o) hU
theorem qny {h:Hp} (ok:Ok h) {m:Nat×Nat} {f:Fc} {s:List Bool} (o:FlOk m f s) (m1:2<=m.1/\m.1<=10) (m2:2<=m.2/\m.2<=10):WC F10 20 [.agg [jae jaz f.values,jae ja3 f.blocks],.agg [si m.1,si m.2]] h (fun v h'=>∃ d,jhz true h' d v=some (vi 0)) :=
 o.toFlG.fck ok m1 m2 (r:=true) (fun _ _=>qen o)
def S11 (f:FuncId):Bool:=Nat.beq f 20
def F11:Fns:=PX S11 F10
theorem qvj {A:Nat->Int}:Env Tryd.prog A tys F11:=jhx qvi
theorem qsz {f:FuncId} (h1:S1 f=false) (h2:Nat.beq f jg9.f=false) (h3:S3 f=false) (h4:S4 f=false) (h5:S5 f=false) (h6:S6 f=false) (h7:S7 f=false) (h8:S8 f=false) (h9:S9 f=false) (h10:S10 f=false) (h11:S11 f=false) {h:Hp}:jdx F11 f vs h=none:=(jbk h11).trans (qwa h1 h2 h3 h4 h5 h6 h7 h8 h9 h10)
section
variable {h:Hp} {m:Nat×Nat} {f:Fc} {s:List Bool} {Q:AV->Hp->Prop}
theorem qnz (o:FlOk m f s) (m1:2<=m.1/\m.1<=10) (m2:2<=m.2/\m.2<=10):jdx F11 20 [.agg [jae jaz f.values,jae ja3 f.blocks],.agg [si m.1,si m.2]] h=some (vi 0,h):=jbm rfl (by simp only[jat,ja1,jbd,jcw,ja2,jbe,jbb,jbq,jbf,jbn,if_true]) (qny jex o m1 m2)
theorem qep (o:FlOk m f s) (m1:2<=m.1/\m.1<=10) (m2:2<=m.2/\m.2<=10):WC F11 20 [.agg [jae jaz f.values,jae ja3 f.blocks],.agg [si m.1,si m.2]] h Q=Q (vi 0) h:=jaq (qnz o m1 m2)
end
section
variable {h:Hp} {m:Nat×Nat} {f:Fc} {s:List Bool} {Q:AV->Hp->Prop}
end
end
end Go.Proofs.YtdbklpgagdbpiaaDoor.Ev
