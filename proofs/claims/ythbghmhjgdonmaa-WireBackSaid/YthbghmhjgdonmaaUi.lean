/- Is each value made where it is used? What the code tells. -/
import Derived.Test.YthbghmhjgdonmaaUe
import Derived.Test.YthbghmhjgdonmaaGT1
import Derived.Test.YthbghmhjgdonmaaGT3
import Derived.Test.YthbghmhjgdonmaaGT5
import Derived.Test.YthbghmhjgdonmaaGT7
namespace Go.Proofs.Ythbghmhjgdonmaa.Ev
noncomputable section
open Go Go.RowKit Go.Proofs.Ythbghmhjgdonmaa.Ms
attribute [local go_sem] Int.reduceToNat reduceCtorEq Nat.reduceAdd Nat.reduceMul Nat.reduceEqDiff Int.reduceEq Int.reduceLT Int.reduceLE Int.reduceNeg Int.reduceAdd Int.reduceSub Int.reduceMul Int.reduceNe
attribute [local go_sem ↓] reduceIte
set_option linter.all false
set_option maxRecDepth 100000
set_option maxHeartbeats 2000000
variable {x0 x1 x2 x3 x4 x5 x6 x7 x8 x9 x10 x11 x12 x13 x14 x15 x16 x17 x18 x19 x20 x21 x22 x23 x24 x25 x26 x27 x28 x29 x30 x31 x32 x33:AV} {n:Int} {vs:List AV} {idom:List Int} {a v bB:Nat}
def S8 (f:FuncId):Bool:=Nat.beq f 69||(Nat.beq f 58||(Nat.beq f 24||(Nat.beq f 25||(Nat.beq f 27||Nat.beq f 22))))
def F8:Fns:=PX S8 F7
theorem qv6 {A:Nat->Int}:Env Try.prog A tys F8:=je1 qvr
theorem no8 {f:FuncId} (h1:S1 f=false) (h2:Nat.beq f jgf.f=false) (h3:S3 f=false) (h4:S4 f=false) (h5:S5 f=false) (h6:S6 f=false) (h7:S7 f=false) (h8:S8 f=false) {h:Hp}:jcw F8 f vs h=none:=(jay h8).trans (no7 h1 h2 h3 h4 h5 h6 h7)
def S9 (f:FuncId):Bool:=Nat.beq f 59
def F9:Fns:=PX S9 F8
theorem qv7 {A:Nat->Int}:Env Try.prog A tys F9:=je1 qv6
theorem no9 {f:FuncId} (h1:S1 f=false) (h2:Nat.beq f jgf.f=false) (h3:S3 f=false) (h4:S4 f=false) (h5:S5 f=false) (h6:S6 f=false) (h7:S7 f=false) (h8:S8 f=false) (h9:S9 f=false) {h:Hp}:jcw F9 f vs h=none:=(jay h9).trans (no8 h1 h2 h3 h4 h5 h6 h7 h8)
theorem ql5 {h:Hp} {Q:AV->Hp->Prop} {b:Int} (hd:Dom idom a b):WC F8 69 [.s (jae jgv idom),vi a,vi b] h Q=Q (vb true) h :=
 jao (jbe rfl (by simp only[jat,ja1,ja9,jb7,ja2,jba,ja7,jbk,jbb,jbi,if_true]) (qjf jds hd))
def KP (idom:List Int) (p:Nat×Int) (k:Nat) (i:Nat):Prop:=(p.1=k/\p.2<(i:Int))∨(p.1≠k/\Dom idom p.1 k)
theorem j9j {h:Hp} (ok:Ok h) {k i:Nat} (hk:KP idom (a,n) k i):WC F8 59 [.s (jae jgv idom),.agg [si a,si n],.agg [si k,si i]] h (fun v h'=>∃ d,jfr true h' d v=some (vb true)):=by
 refine jax (no8 rfl rfl rfl rfl rfl rfl rfl rfl) qjd rfl ?_
 unfold j2a
 obtain⟨hA,eA,okA,nA,xA,gA⟩:=jdn ok [si a,si n] 112
 obtain⟨hB,eB,okB,nB,xB,gB⟩:=jdn okA [si k,si i] 112
 have yA:=(gB _ (by omega)).trans xA
 rw[nA] at xB
 rcases hk with⟨h1,h2⟩ | ⟨h1,h2⟩
 .simp only at h1 h2
  have c1:((a:Int)=(k:Int))=True:=by simp;omega
  have c2:(n<(i:Int))=True:=eq_true h2
  simp(disch:=first|omega|rfl) only[go_sem,eA,nA,eB,yA,xB,c1,c2]
  exact⟨1,rfl⟩
 .simp only at h1 h2
  have c1:((a:Int)=(k:Int))=False:=by simp;omega
  simp(disch:=first|omega|rfl) only[go_sem,eA,nA,eB,yA,xB,c1]
  unfold jw4
  simp(disch:=first|omega|rfl) only[go_sem,yA,xB,ql5 h2]
  exact⟨1,rfl⟩
theorem jxc {h:Hp} {Q:AV->Hp->Prop} {k i:Nat} (hk:KP idom (a,n) k i):WC F9 59 [.s (jae jgv idom),.agg [si a,si n],.agg [si k,si i]] h Q=Q (vb true) h :=
 jao (jbe rfl (by simp only[jat,ja1,ja9,jb7,ja2,jba,ja7,jbk,jbb,jbi,if_true]) (j9j jds hk))
def KT (idom:List Int) (T:List (Nat×Int)) (v k i:Nat):Prop:=∃ p,T[v]?=some p/\KP idom p k i
theorem j9k {T:List (Nat×Int)} {l:List Ms.Opd} {k i:Nat} (hl:l.length<=10000) (hp:∀ o∈l,o.kind=1->KT idom T o.value k i) {Q:Ex->St->Prop} :
 ∀ (d j:Nat) (_:j+d=l.length) {hi:Hp} (_:Ok hi) {x14 x18 x20:AV}
  (hQ:∀ hj x14 x18 x20,Ok hj->hi.next<=hj.next->(∀ n,n<hi.next->hj.get n=hi.get n)->Q (.exit 4) (.mk [x0,.s (jae jgv idom),x2,x3,x4,x5,x6,x7,x8,x9,x10,x11,x12,x13,x14,vi i,vi k,.s (jae jia T),x18,.s (jae jbg l),x20,vi l.length,vi l.length,x23,x24,x25,x26,x27,x28,x29,x30,x31,x32,x33] hj)),
  W F9 jkl.loop (.mk [x0,.s (jae jgv idom),x2,x3,x4,x5,x6,x7,x8,x9,x10,x11,x12,x13,x14,vi i,vi k,.s (jae jia T),x18,.s (jae jbg l),x20,vi l.length,vi j,x23,x24,x25,x26,x27,x28,x29,x30,x31,x32,x33] hi) Q
 | 0,j,hd,hi,ok,x14,x18,x20,hQ=>by
  obtain rfl:j=l.length:=by omega
  rw[jag]
  unfold jkl
  simp(disch:=first|omega|rfl) only[go_sem,f0q]
  exact hQ hi _ _ _ ok (f0e _) (fun _ _=>rfl)
 | d+1,j,hd,hi,ok,x14,x18,x20,hQ=>by
  have hlt:(j:Int)<(l.length:Int):=by omega
  obtain⟨o,hio⟩:∃ y,l[j]?=some y:=⟨_,f0b (by omega)⟩
  have ho:=hp o (f0c hio)
  have hix:=jai (enc:=jbg) (size:=5) hio rfl
  have hs:(j:Int)+1=((j+1:Nat):Int):=by omega
  obtain⟨hA,eA,okA,nA,xA,gA⟩:=jbt ok [.int .i64 0,.int .i64 0,.bool false,.int .i64 0,.int .i64 0] (jbg o) 94
  unfold jbg at xA eA
  rw[jag]
  unfold jkl jwy
  by_cases e:o.kind=1
  .have c1:((o.kind:Int)=1)=True:=by simp;omega
   obtain⟨⟨pb,pn⟩,h1,h2⟩:=ho e
   have hxs:=jai (enc:=jia) (size:=2) h1 rfl
   simp(disch:=first|omega|rfl) only[go_sem,jad,eq_true hlt,hix,jbg,eA,xA,c1,hxs,jia,jxc h2,hs]
   exact j9k hl hp d (j+1) (by omega) okA (fun hj x14 x18 x20 o n g=>hQ hj x14 x18 x20 o (by omega) (fun m hm=>(g m (by omega)).trans (gA m hm)))
  .have c1:((o.kind:Int)=1)=False:=by simp;omega
   simp(disch:=first|omega|rfl) only[go_sem,jad,eq_true hlt,hix,jbg,eA,xA,c1,hs]
   exact j9k hl hp d (j+1) (by omega) okA (fun hj x14 x18 x20 o n g=>hQ hj x14 x18 x20 o (by omega) (fun m hm=>(g m (by omega)).trans (gA m hm)))
theorem qe8 {T:List (Nat×Int)} {l:List Ms.Ins} {k:Nat} (hl:l.length<=10000) (hp:∀ (i:Nat) (x:Ms.Ins),l[i]?=some x->x.ops.length<=6/\∀ o∈x.ops,o.kind=1->KT idom T o.value k i) {Q:Ex->St->Prop} :
 ∀ (d j:Nat) (_:j+d=l.length) {hi:Hp} (_:Ok hi) {x14 x15 x18 x19 x20 x21 x22 x23 x25:AV}
  (hQ:∀ hj x14 x15 x18 x19 x20 x21 x22 x23 x25,Ok hj->hi.next<=hj.next->(∀ n,n<hi.next->hj.get n=hi.get n)->Q (.exit 2) (.mk [x0,.s (jae jgv idom),x2,x3,x4,x5,x6,x7,x8,x9,x10,x11,x12,x13,x14,x15,vi k,.s (jae jia T),x18,x19,x20,x21,x22,x23,.s (jae jdx l),x25,vi l.length,vi l.length,x28,x29,x30,x31,x32,x33] hj)),
  W F9 jkm.loop (.mk [x0,.s (jae jgv idom),x2,x3,x4,x5,x6,x7,x8,x9,x10,x11,x12,x13,x14,x15,vi k,.s (jae jia T),x18,x19,x20,x21,x22,x23,.s (jae jdx l),x25,vi l.length,vi j,x28,x29,x30,x31,x32,x33] hi) Q
 | 0,j,hd,hi,ok,x14,x15,x18,x19,x20,x21,x22,x23,x25,hQ=>by
  obtain rfl:j=l.length:=by omega
  rw[jag]
  unfold jkm
  simp(disch:=first|omega|rfl) only[go_sem,f0q]
  exact hQ hi _ _ _ _ _ _ _ _ _ ok (f0e _) (fun _ _=>rfl)
 | d+1,j,hd,hi,ok,x14,x15,x18,x19,x20,x21,x22,x23,x25,hQ=>by
  have hlt:(j:Int)<(l.length:Int):=by omega
  obtain⟨x,hio⟩:∃ y,l[j]?=some y:=⟨_,f0b (by omega)⟩
  obtain⟨hx1,hx2⟩:=hp j x hio
  have hix:=jai (enc:=jdx) (size:=3) hio rfl
  have hs:(j:Int)+1=((j+1:Nat):Int):=by omega
  obtain⟨hA,eA,okA,nA,xA,gA⟩:=jbt ok [.int .i64 0,.nilSlice,.nilSlice] (jdx x) 81
  have l1:=jah (enc:=jbg) (l:=x.ops)
  unfold jdx at xA eA
  rw[jag]
  unfold jkm jwz
  simp(disch:=first|omega|rfl) only[go_sem,jad,eq_true hlt,hix,jdx,eA,xA,l1]
  refine j9k (by omega) hx2 x.ops.length 0 (by omega) okA (fun hj x14 x18 x20 o n g=>?_)
  simp(disch:=first|omega|rfl) only[go_sem,jad,hs]
  exact qe8 hl hp d (j+1) (by omega) o (fun hk x14 x15 x18 x19 x20 x21 x22 x23 x25 o' n' g'=>hQ hk x14 x15 x18 x19 x20 x21 x22 x23 x25 o' (by omega) (fun m hm=>(g' m (by omega)).trans ((g m (by omega)).trans (gA m hm))))
theorem qe9 {T:List (Nat×Int)} {l:List Nat} {b:Blk} {k:Nat} (hl:l.length<=10000) (hp:∀ v∈l,KT idom T v k b.instrs.length) {Q:Ex->St->Prop} :
 ∀ (d j:Nat) (_:j+d=l.length) {hi:Hp} (_:Ok hi) (_:hi.get bB=some (.arr [jae jas b.params,jae jdx b.instrs,jae jfu b.edges] 36)) {x3 x4 x6:AV}
  (hQ:∀ x3 x4 x6,Q (.exit 8) (.mk [x0,.s (jae jgv idom),x2,x3,x4,.s (jae jas l),x6,vi l.length,vi l.length,x9,x10,x11,x12,x13,x14,x15,vi k,.s (jae jia T),x18,x19,x20,x21,x22,x23,x24,x25,x26,x27,.s (.ptr bB 0),x29,x30,x31,x32,x33] hi)),
  W F9 jkn.loop (.mk [x0,.s (jae jgv idom),x2,x3,x4,.s (jae jas l),x6,vi l.length,vi j,x9,x10,x11,x12,x13,x14,x15,vi k,.s (jae jia T),x18,x19,x20,x21,x22,x23,x24,x25,x26,x27,.s (.ptr bB 0),x29,x30,x31,x32,x33] hi) Q
 | 0,j,hd,hi,ok,xB,x3,x4,x6,hQ=>by
  obtain rfl:j=l.length:=by omega
  rw[jag]
  unfold jkn
  simp(disch:=first|omega|rfl) only[go_sem,f0q]
  exact hQ _ _ _
 | d+1,j,hd,hi,ok,xB,x3,x4,x6,hQ=>by
  have hlt:(j:Int)<(l.length:Int):=by omega
  obtain⟨v,hio⟩:∃ y,l[j]?=some y:=⟨_,f0b (by omega)⟩
  obtain⟨⟨pb,pn⟩,h1,h2⟩:=hp v (f0c hio)
  have hix:=jai (enc:=jas) (size:=1) hio rfl
  have hxs:=jai (enc:=jia) (size:=2) h1 rfl
  have hs:(j:Int)+1=((j+1:Nat):Int):=by omega
  have l1:=jah (enc:=jdx) (l:=b.instrs)
  rw[jag]
  unfold jkn jw1 jw0
  simp(disch:=first|omega|rfl) only[go_sem,jad,eq_true hlt,hix,jas,hxs,jia,xB,l1,jxc h2,hs]
  exact qe9 hl hp d (j+1) (by omega) ok xB hQ
theorem qfa {T:List (Nat×Int)} {l:List Ms.Edg} {b:Blk} {k:Nat} (hl:l.length<=10000) (hp:∀ e∈l,e.args.length<=10000/\∀ v∈e.args,KT idom T v k b.instrs.length) {Q:Ex->St->Prop} :
 ∀ (d j:Nat) (_:j+d=l.length) {hi:Hp} (_:Ok hi) (_:bB<hi.next) (_:hi.get bB=some (.arr [jae jas b.params,jae jdx b.instrs,jae jfu b.edges] 36)) {x3 x4 x5 x6 x7 x8 x9 x11:AV}
  (hQ:∀ hj x3 x4 x5 x6 x7 x8 x9 x11,Ok hj->hi.next<=hj.next->(∀ n,n<hi.next->hj.get n=hi.get n)->Q (.exit 6) (.mk [x0,.s (jae jgv idom),x2,x3,x4,x5,x6,x7,x8,x9,.s (jae jfu l),x11,vi l.length,vi l.length,x14,x15,vi k,.s (jae jia T),x18,x19,x20,x21,x22,x23,x24,x25,x26,x27,.s (.ptr bB 0),x29,x30,x31,x32,x33] hj)),
  W F9 jko.loop (.mk [x0,.s (jae jgv idom),x2,x3,x4,x5,x6,x7,x8,x9,.s (jae jfu l),x11,vi l.length,vi j,x14,x15,vi k,.s (jae jia T),x18,x19,x20,x21,x22,x23,x24,x25,x26,x27,.s (.ptr bB 0),x29,x30,x31,x32,x33] hi) Q
 | 0,j,hd,hi,ok,hb,xB,x3,x4,x5,x6,x7,x8,x9,x11,hQ=>by
  obtain rfl:j=l.length:=by omega
  rw[jag]
  unfold jko
  simp(disch:=first|omega|rfl) only[go_sem,f0q]
  exact hQ hi _ _ _ _ _ _ _ _ ok (f0e _) (fun _ _=>rfl)
 | d+1,j,hd,hi,ok,hb,xB,x3,x4,x5,x6,x7,x8,x9,x11,hQ=>by
  have hlt:(j:Int)<(l.length:Int):=by omega
  obtain⟨e,hio⟩:∃ y,l[j]?=some y:=⟨_,f0b (by omega)⟩
  obtain⟨he1,he2⟩:=hp e (f0c hio)
  have hix:=jai (enc:=jfu) (size:=2) hio rfl
  have hs:(j:Int)+1=((j+1:Nat):Int):=by omega
  obtain⟨hA,eA,okA,nA,xA,gA⟩:=jbt ok [.int .i64 0,.nilSlice] (jfu e) 68
  have yB:=(gA _ hb).trans xB
  have l1:=jah (enc:=jas) (l:=e.args)
  unfold jfu at xA eA
  rw[jag]
  unfold jko jw2
  simp(disch:=first|omega|rfl) only[go_sem,jad,eq_true hlt,hix,jfu,eA,xA,l1]
  refine qe9 he1 he2 e.args.length 0 (by omega) okA yB (fun x3 x4 x6=>?_)
  simp(disch:=first|omega|rfl) only[go_sem,jad,hs]
  exact qfa hl hp d (j+1) (by omega) okA (by omega) yB (fun hk x3 x4 x5 x6 x7 x8 x9 x11 o' n' g'=>hQ hk x3 x4 x5 x6 x7 x8 x9 x11 o' (by omega) (fun m hm=>(g' m (by omega)).trans (gA m hm)))
structure UsOk (idom:List Int) (f:Fc):Prop where
 nb:f.blocks.length<=10000
 sz:∀ b∈f.blocks,b.instrs.length<=10000/\b.edges.length<=10000
 us:∀ (k i:Nat) (b:Blk) (x:Ms.Ins),f.blocks[k]?=some b->b.instrs[i]?=some x->x.ops.length<=6/\∀ o∈x.ops,o.kind=1->KT idom (jef f) o.value k i
 ed:∀ (k:Nat) (b:Blk) (e:Ms.Edg),f.blocks[k]?=some b->e∈b.edges->e.args.length<=10000/\∀ v∈e.args,KT idom (jef f) v k b.instrs.length
theorem qfb {f:Fc} (u:UsOk idom f) {Q:Ex->St->Prop} :
 ∀ (d j:Nat) (_:j+d=f.blocks.length) {hi:Hp} (_:Ok hi) {x3 x4 x5 x6 x7 x8 x9 x10 x11 x12 x13 x14 x15 x16 x18 x19 x20 x21 x22 x23 x24 x25 x26 x27 x28 x30:AV}
  (hQ:∀ hj x3 x4 x5 x6 x7 x8 x9 x10 x11 x12 x13 x14 x15 x16 x18 x19 x20 x21 x22 x23 x24 x25 x26 x27 x28 x30,Q (.exit 0) (.mk [x0,.s (jae jgv idom),x2,x3,x4,x5,x6,x7,x8,x9,x10,x11,x12,x13,x14,x15,x16,.s (jae jia (jef f)),x18,x19,x20,x21,x22,x23,x24,x25,x26,x27,x28,.s (jae ja5 f.blocks),x30,vi f.blocks.length,vi f.blocks.length,x33] hj)),
  W F9 jkp.loop (.mk [x0,.s (jae jgv idom),x2,x3,x4,x5,x6,x7,x8,x9,x10,x11,x12,x13,x14,x15,x16,.s (jae jia (jef f)),x18,x19,x20,x21,x22,x23,x24,x25,x26,x27,x28,.s (jae ja5 f.blocks),x30,vi f.blocks.length,vi j,x33] hi) Q
 | 0,j,hd,hi,ok,x3,x4,x5,x6,x7,x8,x9,x10,x11,x12,x13,x14,x15,x16,x18,x19,x20,x21,x22,x23,x24,x25,x26,x27,x28,x30,hQ=>by
  obtain rfl:j=f.blocks.length:=by omega
  rw[jag]
  unfold jkp
  simp(disch:=first|omega|rfl) only[go_sem,f0q]
  exact hQ hi ..
 | d+1,j,hd,hi,ok,x3,x4,x5,x6,x7,x8,x9,x10,x11,x12,x13,x14,x15,x16,x18,x19,x20,x21,x22,x23,x24,x25,x26,x27,x28,x30,hQ=>by
  have nb:=u.nb
  have hlt:(j:Int)<(f.blocks.length:Int):=by omega
  obtain⟨b,hio⟩:∃ y,f.blocks[j]?=some y:=⟨_,f0b (by omega)⟩
  obtain⟨s1,s2⟩:=u.sz b (f0c hio)
  have hix:=jai (enc:=ja5) (size:=3) hio rfl
  have hs:(j:Int)+1=((j+1:Nat):Int):=by omega
  obtain⟨hA,eA,okA,nA,xA,gA⟩:=jbt ok [.nilSlice,.nilSlice,.nilSlice] (ja5 b) 36
  have l1:=jah (enc:=jdx) (l:=b.instrs)
  have l2:=jah (enc:=jfu) (l:=b.edges)
  unfold ja5 at xA eA
  rw[jag]
  unfold jkp jw3
  simp(disch:=first|omega|rfl) only[go_sem,jad,eq_true hlt,hix,ja5,eA,xA,l1]
  refine qe8 s1 (fun i x hx=>u.us j i b x hio hx) b.instrs.length 0 (by omega) okA (fun hj x14 x15 x18 x19 x20 x21 x22 x23 x25 o n g=>?_)
  have yA:=(g _ (by omega)).trans xA
  simp(disch:=first|omega|rfl) only[go_sem,yA,l2]
  refine qfa s2 (fun e he=>u.ed j b e hio he) b.edges.length 0 (by omega) o (by omega) yA (fun hk x3 x4 x5 x6 x7 x8 x9 x11 o' n' g'=>?_)
  simp(disch:=first|omega|rfl) only[go_sem,jad,hs]
  exact qfb u d (j+1) (by omega) o' hQ
theorem ql6 {h:Hp} {Q:AV->Hp->Prop} {f:Fc} (hl:f.blocks.length<=10000) (hv:f.values.length<=10000) (hne:f.values≠[]) (hp:∀ b∈f.blocks,b.params.length<=10000/\b.instrs.length<=10000/\(∀ v∈b.params,v<f.values.length)/\∀ x∈b.instrs,x.ops.length<=6/\∀ o∈x.ops,o.value<f.values.length) :
 WC F9 58 [.agg [jae jas f.values,jae ja5 f.blocks]] h Q=Q (.s (jae jia (jef f))) h :=
 jao ((jay rfl).trans (jbe rfl (by simp only[jat,ja1,ja9,jb7,ja2,jba,ja7,jbk,jbb,jbi,if_true]) (qjg jds hl hv hne hp)))
theorem ql7 {h:Hp} (ok:Ok h) {f:Fc} (u:UsOk idom f) (hv:f.values.length<=10000) (hne:f.values≠[]) (hp:∀ b∈f.blocks,b.params.length<=10000/\b.instrs.length<=10000/\(∀ v∈b.params,v<f.values.length)/\∀ x∈b.instrs,x.ops.length<=6/\∀ o∈x.ops,o.value<f.values.length) :
 WC F9 26 [.agg [jae jas f.values,jae ja5 f.blocks],.s (jae jgv idom)] h (fun v h'=>∃ d,jfr true h' d v=some (vb true)):=by
 refine jax (no9 rfl rfl rfl rfl rfl rfl rfl rfl rfl) qjc rfl ?_
 unfold j19
 obtain⟨hA,eA,okA,nA,xA,gA⟩:=jdn ok [jae jas f.values,jae ja5 f.blocks] 26
 have l2:=jah (enc:=ja5) (l:=f.blocks)
 simp(disch:=first|omega|rfl) only[go_sem,eA,xA,ql6 u.nb hv hne hp,l2]
 refine qfb u f.blocks.length 0 (by omega) okA (fun hj x3 x4 x5 x6 x7 x8 x9 x10 x11 x12 x13 x14 x15 x16 x18 x19 x20 x21 x22 x23 x24 x25 x26 x27 x28 x30=>?_)
 simp(disch:=first|omega|rfl) only[go_sem]
 exact⟨1,rfl⟩
theorem qtz:∀ (s:List Bool),s.length<=5->oG s
 | [],_=>o_
 | [false],_=>o_f
 | [true],_=>o_t
 | [false,false],_=>qv3
 | [false,true],_=>qv0
 | [true,false],_=>qvu
 | [true,true],_=>qvx
 | [false,false,false],_=>qtw
 | [false,false,true],_=>qtt
 | [false,true,false],_=>qte
 | [false,true,true],_=>qtb
 | [true,false,false],_=>qtn
 | [true,false,true],_=>qtq
 | [true,true,false],_=>qth
 | [true,true,true],_=>qtk
 | [false,false,false,false],_=>qqb
 | [false,false,false,true],_=>qp2
 | [false,false,true,false],_=>qph
 | [false,false,true,true],_=>qpt
 | [false,true,false,false],_=>qpn
 | [false,true,false,true],_=>qpz
 | [false,true,true,false],_=>qo8
 | [false,true,true,true],_=>qpe
 | [true,false,false,false],_=>qpb
 | [true,false,false,true],_=>qo5
 | [true,false,true,false],_=>qqe
 | [true,false,true,true],_=>qpk
 | [true,true,false,false],_=>qp8
 | [true,true,false,true],_=>qpq
 | [true,true,true,false],_=>qpw
 | [true,true,true,true],_=>qp5
 | [false,false,false,false,false],_=>qkt
 | [false,false,false,false,true],_=>qjq
 | [false,false,false,true,false],_=>ql2
 | [false,false,false,true,true],_=>qlw
 | [false,false,true,false,false],_=>qln
 | [false,false,true,false,true],_=>qjz
 | [false,false,true,true,false],_=>qkb
 | [false,false,true,true,true],_=>qle
 | [false,true,false,false,false],_=>qke
 | [false,true,false,false,true],_=>qkn
 | [false,true,false,true,false],_=>qk2
 | [false,true,false,true,true],_=>qlq
 | [false,true,true,false,false],_=>qlb
 | [false,true,true,false,true],_=>qlh
 | [false,true,true,true,false],_=>qlt
 | [false,true,true,true,true],_=>qjt
 | [true,false,false,false,false],_=>qkq
 | [true,false,false,false,true],_=>qjn
 | [true,false,false,true,false],_=>qlz
 | [true,false,false,true,true],_=>qjw
 | [true,false,true,false,false],_=>qlk
 | [true,false,true,false,true],_=>qj8
 | [true,false,true,true,false],_=>qkk
 | [true,false,true,true,true],_=>qj5
 | [true,true,false,false,false],_=>qj2
 | [true,true,false,false,true],_=>qkz
 | [true,true,false,true,false],_=>qk8
 | [true,true,false,true,true],_=>qkh
 | [true,true,true,false,false],_=>qjk
 | [true,true,true,false,true],_=>qkw
 | [true,true,true,true,false],_=>qk5
 | [true,true,true,true,true],_=>qjh
 | _::_::_::_::_::_::_,h=>absurd h (by simp)
theorem qt0:∀ (s:List Bool),s.length<=5->nG s
 | [],_=>n_
 | [false],_=>n_f
 | [true],_=>n_t
 | [false,false],_=>qv4
 | [false,true],_=>qv1
 | [true,false],_=>qvv
 | [true,true],_=>qvy
 | [false,false,false],_=>qtx
 | [false,false,true],_=>qtu
 | [false,true,false],_=>qtf
 | [false,true,true],_=>qtc
 | [true,false,false],_=>qto
 | [true,false,true],_=>qtr
 | [true,true,false],_=>qti
 | [true,true,true],_=>qtl
 | [false,false,false,false],_=>qqc
 | [false,false,false,true],_=>qp3
 | [false,false,true,false],_=>qpi
 | [false,false,true,true],_=>qpu
 | [false,true,false,false],_=>qpo
 | [false,true,false,true],_=>qp0
 | [false,true,true,false],_=>qo9
 | [false,true,true,true],_=>qpf
 | [true,false,false,false],_=>qpc
 | [true,false,false,true],_=>qo6
 | [true,false,true,false],_=>qqf
 | [true,false,true,true],_=>qpl
 | [true,true,false,false],_=>qp9
 | [true,true,false,true],_=>qpr
 | [true,true,true,false],_=>qpx
 | [true,true,true,true],_=>qp6
 | [false,false,false,false,false],_=>qku
 | [false,false,false,false,true],_=>qjr
 | [false,false,false,true,false],_=>ql3
 | [false,false,false,true,true],_=>qlx
 | [false,false,true,false,false],_=>qlo
 | [false,false,true,false,true],_=>qj0
 | [false,false,true,true,false],_=>qkc
 | [false,false,true,true,true],_=>qlf
 | [false,true,false,false,false],_=>qkf
 | [false,true,false,false,true],_=>qko
 | [false,true,false,true,false],_=>qk3
 | [false,true,false,true,true],_=>qlr
 | [false,true,true,false,false],_=>qlc
 | [false,true,true,false,true],_=>qli
 | [false,true,true,true,false],_=>qlu
 | [false,true,true,true,true],_=>qju
 | [true,false,false,false,false],_=>qkr
 | [true,false,false,false,true],_=>qjo
 | [true,false,false,true,false],_=>ql0
 | [true,false,false,true,true],_=>qjx
 | [true,false,true,false,false],_=>qll
 | [true,false,true,false,true],_=>qj9
 | [true,false,true,true,false],_=>qkl
 | [true,false,true,true,true],_=>qj6
 | [true,true,false,false,false],_=>qj3
 | [true,true,false,false,true],_=>qk0
 | [true,true,false,true,false],_=>qk9
 | [true,true,false,true,true],_=>qki
 | [true,true,true,false,false],_=>qjl
 | [true,true,true,false,true],_=>qkx
 | [true,true,true,true,false],_=>qk6
 | [true,true,true,true,true],_=>qji
 | _::_::_::_::_::_::_,h=>absurd h (by simp)
theorem qt1:∀ (s:List Bool),s.length<=5->iG s
 | [],_=>i_
 | [false],_=>i_f
 | [true],_=>i_t
 | [false,false],_=>qv5
 | [false,true],_=>qv2
 | [true,false],_=>qvw
 | [true,true],_=>qvz
 | [false,false,false],_=>qty
 | [false,false,true],_=>qtv
 | [false,true,false],_=>qtg
 | [false,true,true],_=>qtd
 | [true,false,false],_=>qtp
 | [true,false,true],_=>qts
 | [true,true,false],_=>qtj
 | [true,true,true],_=>qtm
 | [false,false,false,false],_=>qqd
 | [false,false,false,true],_=>qp4
 | [false,false,true,false],_=>qpj
 | [false,false,true,true],_=>qpv
 | [false,true,false,false],_=>qpp
 | [false,true,false,true],_=>qp1
 | [false,true,true,false],_=>qpa
 | [false,true,true,true],_=>qpg
 | [true,false,false,false],_=>qpd
 | [true,false,false,true],_=>qo7
 | [true,false,true,false],_=>qqg
 | [true,false,true,true],_=>qpm
 | [true,true,false,false],_=>qqa
 | [true,true,false,true],_=>qps
 | [true,true,true,false],_=>qpy
 | [true,true,true,true],_=>qp7
 | [false,false,false,false,false],_=>qkv
 | [false,false,false,false,true],_=>qjs
 | [false,false,false,true,false],_=>ql4
 | [false,false,false,true,true],_=>qly
 | [false,false,true,false,false],_=>qlp
 | [false,false,true,false,true],_=>qj1
 | [false,false,true,true,false],_=>qkd
 | [false,false,true,true,true],_=>qlg
 | [false,true,false,false,false],_=>qkg
 | [false,true,false,false,true],_=>qkp
 | [false,true,false,true,false],_=>qk4
 | [false,true,false,true,true],_=>qls
 | [false,true,true,false,false],_=>qld
 | [false,true,true,false,true],_=>qlj
 | [false,true,true,true,false],_=>qlv
 | [false,true,true,true,true],_=>qjv
 | [true,false,false,false,false],_=>qks
 | [true,false,false,false,true],_=>qjp
 | [true,false,false,true,false],_=>ql1
 | [true,false,false,true,true],_=>qjy
 | [true,false,true,false,false],_=>qlm
 | [true,false,true,false,true],_=>qka
 | [true,false,true,true,false],_=>qkm
 | [true,false,true,true,true],_=>qj7
 | [true,true,false,false,false],_=>qj4
 | [true,true,false,false,true],_=>qk1
 | [true,true,false,true,false],_=>qla
 | [true,true,false,true,true],_=>qkj
 | [true,true,true,false,false],_=>qjm
 | [true,true,true,false,true],_=>qky
 | [true,true,true,true,false],_=>qk7
 | [true,true,true,true,true],_=>qjj
 | _::_::_::_::_::_::_,h=>absurd h (by simp)
theorem jzn {α β:Type} (g:α->β):∀ (l:List α),(l.map (fun v=>(v,g v))).map (·.1)=l
 | []=>rfl
 | a::l=>congrArg (a::·) (jzn g l)
theorem qb9 (b i:Nat) (ops:List Ms.Opd):(evO b i ops).map (·.1)=dfO ops:=jzn _ _
theorem j2c (b:Nat):∀ (l:List Ms.Ins) (i:Nat),(evI b i l).map (·.1)=(l.map jc1).flatten
 | [],i=>rfl
 | x::l,i=>by
  unfold evI
  rw[List.map_append,qb9,j2c b l]
  rfl
theorem ju3:∀ (l:List Blk) (k:Nat),(evL k l).map (·.1)=jc4 l
 | [],k=>rfl
 | b::l,k=>by
  unfold evL evB evP
  rw[List.map_append,List.map_append,j2c,ju3 l,jzn]
  simp[jc4,jqr]
theorem j9l {b:Nat} {y:Ms.Ins} (hv:v∈jc1 y):∀ {l:List Ms.Ins} {i j:Nat},l[i]?=some y->(v,(b,((j+i:Nat):Int)))∈evI b j l
 | [],i,j,h=>by simp at h
 | x::l,0,j,h=>by
  simp only[f1g,Option.some.injEq] at h
  subst h
  unfold evI
  exact f1d _ (f1p.2 ⟨v,hv,rfl⟩)
 | x::l,i+1,j,h=>by
  simp only[f2q] at h
  unfold evI
  have:=j9l (b:=b) hv (j:=j+1) h
  rw[show j+1+i=j+(i+1) by omega] at this
  exact f0z _ this
theorem j9m {b:Nat}:∀ {l:List Blk} {k:Nat} {i:Nat},b=k+i->jzl l v i n->(v,(b,n))∈evL k l
 | [],k,i,e,h=>by
  obtain⟨x,h1,_⟩:=h
  simp at h1
 | x::l,k,0,e,h=>by
  obtain⟨y,h1,h2⟩:=h
  simp only[f1g,Option.some.injEq] at h1
  subst h1
  rw[f1i] at e
  subst e
  unfold evL evB
  refine f1d _ ?_
  rcases h2 with⟨rfl,h2⟩ | ⟨i,y,rfl,h2,h3⟩
  .exact f1d _ (f1p.2 ⟨v,h2,rfl⟩)
  .have:=j9l (b:=b) h3 (j:=0) h2
   rw[f0w] at this
   exact f0z _ this
 | x::l,k,i+1,e,h=>by
  unfold evL
  refine f0z _ (j9m (i:=i) (by omega) ?_)
  obtain⟨y,h1,h2⟩:=h
  exact⟨y,by simpa using h1,h2⟩
theorem j9n:∀ (l:List (Nat×(Nat×Int))) (T:List (Nat×Int)),v∉l.map (·.1)->(spF T l)[v]?=T[v]?
 | [],T,_=>rfl
 | e::l,T,h=>by
  simp only[f1c,f0f,not_or] at h
  show(spF (T.set e.1 e.2) l)[v]?=_
  rw[j9n l _ h.2,f1w (fun x=>h.1 x.symm)]
theorem j9o {p:Nat×Int}:∀ (l:List (Nat×(Nat×Int))) (T:List (Nat×Int)),(l.map (·.1)).Nodup->v<T.length->(v,p)∈l->(spF T l)[v]?=some p
 | [],T,_,_,h=>by cases h
 | e::l,T,hd,hv,h=>by
  rw[f1c,f0s] at hd
  show(spF (T.set e.1 e.2) l)[v]?=_
  rcases f0f.1 h with rfl | h
  .rw [j9n l _ hd.1,List.getElem?_set_self hv]
  .exact j9o l _ hd.2 (by rw[f3j];exact hv) h
theorem qca {f:Fc} (hm:(jc4 f.blocks).Perm (List.range f.values.length)) {b:Nat} (h:jzl f.blocks v b n):(jef f)[v]?=some (b,n):=by
 have hmem:=j9m (k:=0) (i:=b) (f0w b).symm h
 have hk:v∈jc4 f.blocks:=by rw[←ju3 f.blocks 0];exact f1p.2 ⟨_,hmem,rfl⟩
 have hv:v<f.values.length:=List.mem_range.1 (hm.mem_iff.1 hk)
 unfold jef
 exact j9o _ _ (by rw[ju3];exact hm.nodup_iff.2 List.nodup_range) (by rw[f21];exact hv) hmem
theorem juy.kt {f:Fc} (hm:(jc4 f.blocks).Perm (List.range f.values.length)) {k i:Nat} (h:juy idom f.blocks v k i):KT idom (jef f) v k i:=by
 obtain⟨b,n,h1,h2⟩:=h
 exact⟨(b,n),qca hm h1,h2⟩
def gPs (l:List Blk) (k:Nat):SV:=jae jas (l.getD k jgq).params
def gIs (l:List Blk) (k:Nat):SV:=jae jdx (l.getD k jgq).instrs
def gAs (l:List Blk) (k j:Nat):SV:=jae jas ((l.getD k jgq).edges.getD j ⟨0,[]⟩).args
theorem j9p (a:Nat->SV):∀ (r p:List Ms.Edg),(∀ j,a j=jae jas ((p++r).getD j ⟨0,[]⟩).args)->qqx a p.length (r.map (·.block))=r.map jfu
 | [],p,h=>rfl
 | e::r,p,h=>by
  show[si e.block,a p.length]::qqx a (p.length+1) (r.map (·.block))=jfu e::r.map jfu
  have h1:a p.length=jae jas e.args:=by
   rw[h,f0h,f0v (f0e _)];simp
  have h2:=j9p a r (p++[e]) (fun j=>by rw[h];simp)
  rw[f0j] at h2
  rw[h1]
  exact congrArg _ h2
theorem ql8 (a:Nat->SV) (l:List Ms.Edg) (h:∀ j,a j=jae jas (l.getD j ⟨0,[]⟩).args):qqy a (l.map (·.block))=jae jfu l:=by
 cases l with
 | nil=>rfl
 | cons e r =>
  have:=j9p a (e::r) [] (by simpa using h)
  exact congrArg SV.lst this
theorem j2d (l:List Blk):∀ (r p:List Blk),p++r=l->j8h (gPs l) (gIs l) (gAs l) p.length (grL r)=r.map ja5
 | [],p,h=>rfl
 | b::r,p,h=>by
  have hb:l.getD p.length jgq=b:=by rw[←h,f0h,f0v (f0e _)];simp
  show[gPs l p.length,gIs l p.length,qqy (gAs l p.length) (qe0 b)]::j8h (gPs l) (gIs l) (gAs l) (p.length+1) (grL r)=ja5 b::r.map ja5
  have h1:qqy (gAs l p.length) (qe0 b)=jae jfu b.edges:=ql8 _ _ (fun j=>by unfold gAs;rw[hb])
  have h2:=j2d l r (p++[b]) (by rw[←h];simp)
  rw[f0j] at h2
  rw[h1]
  unfold gPs gIs
  rw[hb]
  exact congrArg _ h2
theorem jzo {f:Fc} (hne:f.blocks≠[]):[jae jas f.values,jae ja5 f.blocks]=qqz (grL f.blocks) (jae jas f.values) (gPs f.blocks) (gIs f.blocks) (gAs f.blocks):=by
 have h:=j2d f.blocks f.blocks [] rfl
 unfold qqz
 rw[show j8h (gPs f.blocks) (gIs f.blocks) (gAs f.blocks) 0 (grL f.blocks)=f.blocks.map ja5 from h]
 cases e:f.blocks with
 | nil=>exact absurd e hne
 | cons b r=>rfl
section
variable {f:Fc} {s:List Bool} {h:Hp} {Q:AV->Hp->Prop}
theorem qcb (hs:s.length<=5) (hg:grL f.blocks=gS s) (hne:f.blocks≠[]):jcw F8 24 [.agg [jae jas f.values,jae ja5 f.blocks]] h=some (.s (jae jas (j8g s 0)),h) :=
 jbe rfl (by simp only[jat,ja1,ja9,jb7,ja2,jba,ja7,jbk,jbb,jbi,if_true]) (by rw[jzo hne,hg];exact jp6 (qtz s hs _ _ _ _))
theorem ql9 (hs:s.length<=5) (hg:grL f.blocks=gS s) (hne:f.blocks≠[]):jcw F8 25 [.agg [jae jas f.values,jae ja5 f.blocks]] h=some (.s (jae jqt (j3p (gS s))),h) :=
 jbe rfl (by simp only[jat,ja1,ja9,jb7,ja2,jba,ja7,jbk,jbb,jbi,if_true]) (by rw[jzo hne,hg];exact jp6 (qt0 s hs _ _ _ _))
theorem qcc (hs:s.length<=5) (hg:grL f.blocks=gS s) (hne:f.blocks≠[]):jcw F8 27 [.agg [jae jas f.values,jae ja5 f.blocks],.s (jae jas (j8g s 0))] h=some (.s (jae jgv (jgu s)),h) :=
 jbe rfl (by simp only[jat,ja1,ja9,jb7,ja2,jba,ja7,jbk,jbb,jbi,if_true]) (by rw[jzo hne,hg];exact jp6 (qt1 s hs _ _ _ _))
end
def shp:Nat->List (List Bool)
 | 0=>[[]]
 | n+1=>[]::((shp n).map (false::·)++(shp n).map (true::·))
theorem j9q:∀ (n:Nat) (s:List Bool),s.length<=n->s∈shp n
 | 0,s,h=>by
  have:=f1m (Nat.le_zero.1 h)
  subst this;exact f0t.2 rfl
 | n+1,[],h=>by unfold shp;simp
 | n+1,b::s,h=>by
  have:=j9q n s (by simpa using h)
  unfold shp
  refine f0x _ (f0d.2 ?_)
  cases b
  .exact .inl (f1p.2 ⟨s,this,rfl⟩)
  .exact .inr (f1p.2 ⟨s,this,rfl⟩)
theorem qma {P:List Bool->Bool} (h:(shp 5).all P=true) {s:List Bool} (hs:s.length<=5):P s=true:=f3b.1 h s (j9q 5 s hs)
def qus (g:List (List Nat)):Bool:=g.all (fun es=>es.length<=1||es.all (fun t=>((j3p g).getD t [0,0]).length<=1))
theorem qcd:(shp 5).all (fun s=>qus (gS s))=true:=by kernel_rfl
theorem ju4:∀ (s:List Bool) (c:Nat),(j8g s c).length=1+3*s.length
 | [],c=>rfl
 | false::s,c=>by simp[j8g,ju4 s];omega
 | true::s,c=>by simp[j8g,ju4 s];omega
structure FlG (m:Nat×Nat) (f:Fc) (s:List Bool):Prop where
 k:FcOk m f
 on:jl7 f=0
 hs:s.length<=5
 hg:grL f.blocks=gS s
 hv:f.values≠[]
structure FlOk (m:Nat×Nat) (f:Fc) (s:List Bool):Prop extends FlG m f s where
 us:UsOk (jgu s) f
theorem FlG.hne {m:Nat×Nat} {f:Fc} {s:List Bool} (o:FlG m f s):f.blocks≠[]:=f1t.1 (by have:=o.k.nb;omega)
theorem FlOk.hne {m:Nat×Nat} {f:Fc} {s:List Bool} (o:FlOk m f s):f.blocks≠[]:=f1t.1 (by have:=o.k.nb;omega)
theorem FlOk.len {m:Nat×Nat} {f:Fc} {s:List Bool} (o:FlOk m f s):f.blocks.length=1+3*s.length:=by rw[←jdw,o.hg,j18]
theorem qmb {m:Nat×Nat} (m1:2<=m.1/\m.1<=10) (m2:2<=m.2/\m.2<=10) (l:List Pc):∃ s,FlOk m (jel m l) s/\(jc4 (jel m l).blocks).Perm (List.range (jel m l).values.length) /\
 (∀ (k i:Nat) (b:Blk) (x:Ms.Ins) (o:Ms.Opd),(jel m l).blocks[k]?=some b->b.instrs[i]?=some x->o∈x.ops->o.kind=1->juy (jgu s) (jel m l).blocks o.value k i):=by
 obtain⟨k,kp,_⟩:=j05 m1 m2 l
 obtain⟨s,h1,h2,h3,h4⟩:=j3r m1 m2 l
 have hv:(jel m l).values≠[]:=by
  obtain⟨b,g,c,n,_⟩:=((jkg m1 m2).pieces (l.take 24)).bd.lay ⟨0,0,1,0,0,0,3⟩
  obtain⟨_,_,_,_,_,_,_,_,cs,e1,e2,_⟩:=qhs ((jkg m1 m2).pieces (l.take 24)).v ⟨0,0,1,0,0,0,3⟩
  have:(jel m l).values=(jcf ((l.take 24).foldl jbr (jbn m)) ⟨0,0,1,0,0,0,3⟩).values:=rfl
  rw[this,e2]
  rcases e1 with rfl | rfl<;>simp
 refine⟨s,⟨⟨k,qbx kp,h1,h2,hv⟩,⟨by have:=k.nb;omega,fun b hb=>by have:=k.blk b hb;omega,fun a i b x hb hx=>⟨(k.ins b (f0c hb) x (f0c hx)).nops,fun o ho hk=>juy.kt kp (h3 a i b x o hb hx ho hk)⟩,fun a b e hb he=>⟨?_,fun v hv=>juy.kt kp (h4 a b e v hb he hv)⟩⟩⟩,kp,h3⟩
 obtain⟨_,_,t,h5,h6,_⟩:=k.edg b (f0c hb) e he
 have h7:=(k.blk t (f0c h5)).1
 have:=congrArg List.length h6
 simp only[f1a] at this
 omega
def S10 (f:FuncId):Bool:=Nat.beq f 26
def F10:Fns:=PX S10 F9
theorem qt2 {A:Nat->Int}:Env Try.prog A tys F10:=je1 qv7
theorem qut {f:FuncId} (h1:S1 f=false) (h2:Nat.beq f jgf.f=false) (h3:S3 f=false) (h4:S4 f=false) (h5:S5 f=false) (h6:S6 f=false) (h7:S7 f=false) (h8:S8 f=false) (h9:S9 f=false) (h10:S10 f=false) {h:Hp}:jcw F10 f vs h=none:=(jay h10).trans (no9 h1 h2 h3 h4 h5 h6 h7 h8 h9)
section
variable {h:Hp} {m:Nat×Nat} {f:Fc} {s:List Bool} {Q:AV->Hp->Prop}
theorem qmc {g:FuncId} (h9:S9 g=false) (h10:S10 g=false):jcw F10 g vs h=jcw F8 g vs h:=(jay h10).trans (jay h9)
theorem qce (k:FcOk m f) (on:jl7 f=0) (m1:2<=m.1/\m.1<=10) (m2:2<=m.2/\m.2<=10):WC F10 23 [.agg [jae jas f.values,jae ja5 f.blocks],.agg [si m.1,si m.2]] h Q=Q (vi 0) h :=
 jao ((qmc rfl rfl).trans ((jay rfl).trans (by rw[qor k m1 m2,on];rfl)))
theorem j3s (o:FlG m f s):WC F10 24 [.agg [jae jas f.values,jae ja5 f.blocks]] h Q=Q (.s (jae jas (j8g s 0))) h:=jao ((qmc rfl rfl).trans (qcb o.hs o.hg o.hne))
theorem j9r (o:FlG m f s):WC F10 25 [.agg [jae jas f.values,jae ja5 f.blocks]] h Q=Q (.s (jae jqt (j3p (gS s)))) h:=jao ((qmc rfl rfl).trans (ql9 o.hs o.hg o.hne))
theorem j3t (o:FlG m f s):WC F10 27 [.agg [jae jas f.values,jae ja5 f.blocks],.s (jae jas (j8g s 0))] h Q=Q (.s (jae jgv (jgu s))) h:=jao ((qmc rfl rfl).trans (qcc o.hs o.hg o.hne))
theorem qcf (o:FlOk m f s):WC F10 26 [.agg [jae jas f.values,jae ja5 f.blocks],.s (jae jgv (jgu s))] h Q=Q (vb true) h :=
 jao (jbe rfl (by simp only[jat,ja1,ja9,jb7,ja2,jba,ja7,jbk,jbb,jbi,if_true]) (ql7 jds o.us (by have:=o.k.nv;omega) o.hv (j8d o.k)))
end
theorem FlG.pred {m:Nat×Nat} {f:Fc} {s:List Bool} (o:FlG m f s) {b:Blk} (hb:b∈f.blocks) (h:1<b.edges.length) {e:Ms.Edg} (he:e∈b.edges):∃ pl,(j3p (gS s))[e.block]?=some pl/\pl.length<=1:=by
 have h1:=qma qcd o.hs
 unfold qus at h1
 rw[f3b] at h1
 have h2:=h1 (qe0 b) (by rw[←o.hg];exact f1p.2 ⟨b,hb,rfl⟩)
 simp only[f2s,decide_eq_true_eq,f3b] at h2
 have h3:=h2.resolve_left (by unfold qe0;rw[f1a];omega) e.block (f1p.2 ⟨e,he,rfl⟩)
 rw[f0h] at h3
 cases hq:(j3p (gS s))[e.block]? with
 | none=>rw[hq] at h3;simp at h3
 | some pl=>rw[hq] at h3;exact⟨pl,rfl,h3⟩
theorem j9s {m:Nat×Nat} {f:Fc} (k:FcOk m f) {IL:List (List Nat)} (pr:∀ b∈f.blocks,1<b.edges.length->∀ e∈b.edges,∃ pl,IL[e.block]?=some pl/\pl.length<=1) {b:Blk} (hb:b∈f.blocks) {Q:Ex->St->Prop} :
 ∀ (d j:Nat) (_:j+d=b.edges.length) {hi:Hp} (_:Ok hi) (_:bB<hi.next) (_:hi.get bB=some (.arr [jae jas b.params,jae jdx b.instrs,jae jfu b.edges] 36)) {x4 x5 x8:AV}
  (hQ:∀ hj x4 x5 x8,Ok hj->hi.next<=hj.next->(∀ n,n<hi.next->hj.get n=hi.get n)->Q (.exit 2) (.mk [x0,x1,x2,x3,x4,x5,.s (jae jqt (IL)),.s (jae jfu b.edges),x8,vi b.edges.length,vi b.edges.length,.s (.ptr bB 0),x12,x13,x14,x15,x16,x17,x18,x19,x20] hj)),
  W F10 jkq.loop (.mk [x0,x1,x2,x3,x4,x5,.s (jae jqt (IL)),.s (jae jfu b.edges),x8,vi b.edges.length,vi j,.s (.ptr bB 0),x12,x13,x14,x15,x16,x17,x18,x19,x20] hi) Q
 | 0,j,hd,hi,ok,hB,xB,x4,x5,x8,hQ=>by
  obtain rfl:j=b.edges.length:=by omega
  rw[jag]
  unfold jkq
  simp(disch:=first|omega|rfl) only[go_sem,f0q]
  exact hQ hi _ _ _ ok (f0e _) (fun _ _=>rfl)
 | d+1,j,hd,hi,ok,hB,xB,x4,x5,x8,hQ=>by
  have hlt:(j:Int)<(b.edges.length:Int):=by omega
  have hne:=(k.blk b hb).2.2
  obtain⟨e,hio⟩:∃ y,b.edges[j]?=some y:=⟨_,f0b (by omega)⟩
  have hix:=jai (enc:=jfu) (size:=2) hio rfl
  have hs:(j:Int)+1=((j+1:Nat):Int):=by omega
  obtain⟨hA,eA,okA,nA,xA,gA⟩:=jbt ok [.int .i64 0,.nilSlice] (jfu e) 68
  have yB:=(gA _ hB).trans xB
  have l2:=jah (enc:=jfu) (l:=b.edges)
  unfold jfu at xA eA
  rw[jag]
  unfold jkq jw6
  by_cases h1:1<b.edges.length
  .have c1:(1<(b.edges.length:Int))=True:=by simp;omega
   obtain⟨pl,h2,h3⟩:=pr b hb h1 e (f0c hio)
   have hxp:=jai (enc:=jqt) (size:=1) h2 rfl
   have l3:=jah (enc:=jas) (l:=pl)
   have c2:(1<(pl.length:Int))=False:=by simp;omega
   simp(disch:=first|omega|rfl) only[go_sem,jad,eq_true hlt,hix,jfu,eA,xA,yB,l2,c1,hxp,jqt,l3,c2,hs]
   exact j9s k pr hb d (j+1) (by omega) okA (by omega) yB (fun hj x4 x5 x8 ok' n g=>hQ hj x4 x5 x8 ok' (by omega) (fun q hq=>(g q (by omega)).trans (gA q hq)))
  .have c1:(1<(b.edges.length:Int))=False:=by simp;omega
   simp(disch:=first|omega|rfl) only[go_sem,jad,eq_true hlt,hix,jfu,eA,xA,yB,l2,c1,hs]
   exact j9s k pr hb d (j+1) (by omega) okA (by omega) yB (fun hj x4 x5 x8 ok' n g=>hQ hj x4 x5 x8 ok' (by omega) (fun q hq=>(g q (by omega)).trans (gA q hq)))
theorem qfc {m:Nat×Nat} {f:Fc} (k:FcOk m f) {IL:List (List Nat)} (pr:∀ b∈f.blocks,1<b.edges.length->∀ e∈b.edges,∃ pl,IL[e.block]?=some pl/\pl.length<=1) {bF:Nat} {Q:Ex->St->Prop} :
 ∀ (d j:Nat) (_:j+d=f.blocks.length) {hi:Hp} (_:Ok hi) (_:bF<hi.next) {x4 x5 x7 x8 x9 x10 x11 x13:AV}
  (hQ:∀ hj x4 x5 x7 x8 x9 x10 x11 x13,Ok hj->hi.next<=hj.next->hj.get bF=hi.get bF->Q (.exit 0) (.mk [x0,x1,x2,x3,x4,x5,.s (jae jqt (IL)),x7,x8,x9,x10,x11,.s (jae ja5 f.blocks),x13,vi f.blocks.length,vi f.blocks.length,x16,x17,x18,x19,.s (.ptr bF 0)] hj)),
  W F10 jkr.loop (.mk [x0,x1,x2,x3,x4,x5,.s (jae jqt (IL)),x7,x8,x9,x10,x11,.s (jae ja5 f.blocks),x13,vi f.blocks.length,vi j,x16,x17,x18,x19,.s (.ptr bF 0)] hi) Q
 | 0,j,hd,hi,ok,hB,x4,x5,x7,x8,x9,x10,x11,x13,hQ=>by
  obtain rfl:j=f.blocks.length:=by omega
  rw[jag]
  unfold jkr
  simp(disch:=first|omega|rfl) only[go_sem,f0q]
  exact hQ hi _ _ _ _ _ _ _ _ ok (f0e _) rfl
 | d+1,j,hd,hi,ok,hB,x4,x5,x7,x8,x9,x10,x11,x13,hQ=>by
  have nb:=k.nb
  have hlt:(j:Int)<(f.blocks.length:Int):=by omega
  obtain⟨b,hio⟩:∃ y,f.blocks[j]?=some y:=⟨_,f0b (by omega)⟩
  have hbm:=f0c hio
  have hix:=jai (enc:=ja5) (size:=3) hio rfl
  have hs:(j:Int)+1=((j+1:Nat):Int):=by omega
  obtain⟨hA,eA,okA,nA,xA,gA⟩:=jbt ok [.nilSlice,.nilSlice,.nilSlice] (ja5 b) 36
  have l2:=jah (enc:=jfu) (l:=b.edges)
  unfold ja5 at xA eA
  rw[jag]
  unfold jkr jw7
  simp(disch:=first|omega|rfl) only[go_sem,jad,eq_true hlt,hix,ja5,eA,xA,l2]
  refine j9s k pr hbm b.edges.length 0 (by omega) okA (by omega) xA (fun hj x4 x5 x8 ok' n g=>?_)
  simp(disch:=first|omega|rfl) only[go_sem,jad,hs]
  exact qfc k pr d (j+1) (by omega) ok' (by omega) (fun hk x4 x5 x7 x8 x9 x10 x11 x13 o' n' g'=>hQ hk x4 x5 x7 x8 x9 x10 x11 x13 o' (by omega) (g'.trans ((g _ (by omega)).trans (gA _ hB))))
theorem qcg {h:Hp} (ok:Ok h) {m:Nat×Nat} {f:Fc} (k:FcOk m f) (on:jl7 f=0) (m1:2<=m.1/\m.1<=10) (m2:2<=m.2/\m.2<=10) {IL:List (List Nat)} {O:List Nat} {D:List Int} {r:Bool} (pr:∀ b∈f.blocks,1<b.edges.length->∀ e∈b.edges,∃ pl,IL[e.block]?=some pl/\pl.length<=1) (hl:f.blocks.length<=O.length)
 (hO:∀ h Q,WC F10 24 [.agg [jae jas f.values,jae ja5 f.blocks]] h Q=Q (.s (jae jas O)) h) (hI:∀ h Q,WC F10 25 [.agg [jae jas f.values,jae ja5 f.blocks]] h Q=Q (.s (jae jqt IL)) h)
 (hD:∀ h Q,WC F10 27 [.agg [jae jas f.values,jae ja5 f.blocks],.s (jae jas O)] h Q=Q (.s (jae jgv D)) h) (hU:∀ h Q,WC F10 26 [.agg [jae jas f.values,jae ja5 f.blocks],.s (jae jgv D)] h Q=Q (vb r) h) :
 WC F10 11 [.agg [jae jas f.values,jae ja5 f.blocks],.agg [si m.1,si m.2]] h (fun v h'=>∃ d,jfr true h' d v=some (vi (Bool.rec 10 0 r))):=by
 refine jax (qut rfl rfl rfl rfl rfl rfl rfl rfl rfl rfl) qje rfl ?_
 unfold j2b
 obtain⟨hA,eA,okA,nA,xA,gA⟩:=jdn ok [jae jas f.values,jae ja5 f.blocks] 26
 obtain⟨hB,eB,okB,nB,xB,gB⟩:=jdn okA [si m.1,si m.2] 30
 have yA:=(gB _ (by omega)).trans xA
 rw[nA] at xB
 have l2:=jah (enc:=ja5) (l:=f.blocks)
 have l3:=jah (enc:=jas) (l:=O)
 have c1:((O.length:Int)<(f.blocks.length:Int))=False:=eq_false (by omega)
 have hh:(hB.next<=h.next/\h.next<hB.next)=False:=eq_false (by omega)
 simp(disch:=first|omega|rfl) only[go_sem,eA,eB,nA,yA,xB,qce k on m1 m2]
 unfold jxb jw5
 simp(disch:=first|omega|rfl) only[go_sem,yA,xB,hO,l3,l2,c1,hh]
 unfold jxa
 simp(disch:=first|omega|rfl) only[go_sem,yA,hI,l2]
 refine qfc k pr f.blocks.length 0 (by omega) okB (by omega) (fun hj x4 x5 x7 x8 x9 x10 x11 x13 o' n g=>?_)
 have zA:=g.trans yA
 have hh:(hj.next<=h.next/\h.next<hj.next)=False:=eq_false (by omega)
 unfold jw8
 cases r with
 | false =>
  simp(disch:=first|omega|rfl) only[go_sem,zA,hO,hD,hU,hh]
  exact⟨1,rfl⟩
 | true =>
  simp(disch:=first|omega|rfl) only[go_sem,zA,hO,hD,hU,hh]
  unfold jw9
  simp(disch:=first|omega|rfl) only[go_sem]
  exact⟨1,rfl⟩
theorem FlG.fck {h:Hp} (ok:Ok h) {m:Nat×Nat} {f:Fc} {s:List Bool} (o:FlG m f s) (m1:2<=m.1/\m.1<=10) (m2:2<=m.2/\m.2<=10) {r:Bool} (hU:∀ h Q,WC F10 26 [.agg [jae jas f.values,jae ja5 f.blocks],.s (jae jgv (jgu s))] h Q=Q (vb r) h) :
 WC F10 11 [.agg [jae jas f.values,jae ja5 f.blocks],.agg [si m.1,si m.2]] h (fun v h'=>∃ d,jfr true h' d v=some (vi (Bool.rec 10 0 r))) :=
 qcg ok o.k o.on m1 m2 (fun b hb h1 e he=>o.pred hb h1 he) (by rw[ju4,←jdw,o.hg,j18];exact f0e _) (fun _ _=>j3s o) (fun _ _=>j9r o) (fun _ _=>j3t o) hU
theorem qmd {h:Hp} (ok:Ok h) {m:Nat×Nat} {f:Fc} {s:List Bool} (o:FlOk m f s) (m1:2<=m.1/\m.1<=10) (m2:2<=m.2/\m.2<=10):WC F10 11 [.agg [jae jas f.values,jae ja5 f.blocks],.agg [si m.1,si m.2]] h (fun v h'=>∃ d,jfr true h' d v=some (vi 0)) :=
 o.toFlG.fck ok m1 m2 (r:=true) (fun _ _=>qcf o)
def S11 (f:FuncId):Bool:=Nat.beq f 11
def F11:Fns:=PX S11 F10
theorem qt3 {A:Nat->Int}:Env Try.prog A tys F11:=je1 qt2
theorem qme {f:FuncId} (h1:S1 f=false) (h2:Nat.beq f jgf.f=false) (h3:S3 f=false) (h4:S4 f=false) (h5:S5 f=false) (h6:S6 f=false) (h7:S7 f=false) (h8:S8 f=false) (h9:S9 f=false) (h10:S10 f=false) (h11:S11 f=false) {h:Hp}:jcw F11 f vs h=none:=(jay h11).trans (qut h1 h2 h3 h4 h5 h6 h7 h8 h9 h10)
section
variable {h:Hp} {m:Nat×Nat} {f:Fc} {s:List Bool} {Q:AV->Hp->Prop}
theorem qmf (o:FlOk m f s) (m1:2<=m.1/\m.1<=10) (m2:2<=m.2/\m.2<=10):jcw F11 11 [.agg [jae jas f.values,jae ja5 f.blocks],.agg [si m.1,si m.2]] h=some (vi 0,h):=jbe rfl (by simp only[jat,ja1,ja9,jb7,ja2,jba,ja7,jbk,jbb,jbi,if_true]) (qmd jds o m1 m2)
theorem qch (o:FlOk m f s) (m1:2<=m.1/\m.1<=10) (m2:2<=m.2/\m.2<=10):WC F11 11 [.agg [jae jas f.values,jae ja5 f.blocks],.agg [si m.1,si m.2]] h Q=Q (vi 0) h:=jao (qmf o m1 m2)
end
theorem j2e {α:Type} {h:Hp} {d:Nat} {enc:α->List SV} {l:List α}:jey true h (d+1) (jae enc l)=some (jae enc l):=by cases l<;>rfl
section
variable {h:Hp} {m:Nat×Nat} {f:Fc} {s:List Bool} {Q:AV->Hp->Prop}
end
end
end Go.Proofs.Ythbghmhjgdonmaa.Ev
