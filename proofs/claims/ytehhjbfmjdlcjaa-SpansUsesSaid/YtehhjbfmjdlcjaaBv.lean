/- Each operand is needed where it stands: the walk of the law. -/
import Derived.Test.YtehhjbfmjdlcjaaBuA
namespace Go.Proofs.Ytehhjbfmjdlcjaa.Ev
open Go Go.RowKit Go.Proofs.Ytehhjbfmjdlcjaa.Ms
attribute [local go_sem] Int.reduceToNat reduceCtorEq Nat.reduceAdd Nat.reduceMul Nat.reduceEqDiff Int.reduceEq Int.reduceLT Int.reduceLE Int.reduceNeg Int.reduceAdd Int.reduceSub Int.reduceMul Int.reduceNe
attribute [local go_sem ↓] reduceIte
set_option linter.all false
set_option maxRecDepth 100000
set_option maxHeartbeats 4000000
variable {x0 x1 x2 x3 x4 x5 x6 x7 x8 x9 x19 x20 x22 x23 x24 x25 x26 x27 x28 x29 x30 x31 x34 x35 x36:AV} {q:Nat}
section
variable {f:Fc} {ins outs:List (List Nat)}
def OpN (f:Fc) (ins outs:List (List Nat)) (e:Nat) (o:Ms.Opd):Prop:=o.value<f.values.length/\jdz (jf1 f.blocks ins outs o.value f.blocks.length) (e+lt1 o)=true/\(o.kind=2->jdz (jf1 f.blocks ins outs o.value f.blocks.length) (e+lt1 o - 1)=false)
theorem qul {pp op:Nat} {o:Ms.Opd} (hnb:f.blocks.length<=16) (hv:o.value<f.values.length) (hp:1<=pp/\pp<=1000000) (h1:jdz (jf1 f.blocks ins outs o.value f.blocks.length) pp=true) (h2:o.kind=2->jdz (jf1 f.blocks ins outs o.value f.blocks.length) (pp - 1)=false)
 {hi:Hp} (ok:Ok hi) (xo:hi.get op=some (.arr (ja6 o) 48)) {x0 x1 x2 x3 x4 x5 x6 x7 x8 x9 x10 x12 x14 x15 x16 x17 x18 x19 x20 x21 x22 x23 x24 x25 x26 x27 x28 x29 x30 x31 x32 x34 x35 x36:AV} {Q:Ex->St->Prop}
 (hQ:Q .normal (.mk [x0,x1,x2,x3,x4,x5,x6,x7,x8,x9,vb false,vi pp,x12,.s (.ptr op 0),x14,x15,x16,x17,x18,x19,x20,x21,x22,x23,x24,x25,x26,x27,x28,x29,x30,x31,x32,.s (jae jeq (jb8 f.blocks ins outs f.values.length)),x34,x35,x36] hi)) :
 W FU j1i (.mk [x0,x1,x2,x3,x4,x5,x6,x7,x8,x9,x10,vi pp,x12,.s (.ptr op 0),x14,x15,x16,x17,x18,x19,x20,x21,x22,x23,x24,x25,x26,x27,x28,x29,x30,x31,x32,.s (jae jeq (jb8 f.blocks ins outs f.values.length)),x34,x35,x36] hi) Q:=by
 have hix:=jag (enc:=jeq) (size:=1) (jys (bs:=f.blocks) (ins:=ins) (outs:=outs) hv) rfl
 have hl:=jky (bs:=f.blocks) (ins:=ins) (outs:=outs) (v:=o.value) f.blocks.length
 have hN:=fun {n:Nat} {h:Hp} {Q:AV->Hp->Prop}=>j4d (l:=jf1 f.blocks ins outs o.value f.blocks.length) (n:=n) (h:=h) (Q:=Q) (by omega)
 have w1:(pp:Int) - 1=((pp - 1:Nat):Int):=by omega
 unfold ja6 at xo
 unfold j1i
 by_cases ek:o.kind=2
 .have c2:((o.kind:Int)=2)=True:=eq_true (by omega)
  simp(disch:=first|omega|rfl) only[go_sem,jab,xo,hix,jeq,hN,h1,h2 ek,c2,w1]
  exact hQ
 .have c2:((o.kind:Int)=2)=False:=eq_false (by omega)
  simp(disch:=first|omega|rfl) only[go_sem,jab,xo,hix,jeq,hN,h1,c2,w1]
  exact hQ
theorem qpw (hnb:f.blocks.length<=16) {l:List Ms.Opd} {e:Nat} (hl:l.length<=6) (he:1<=e/\e<=100000) (ho:∀ o∈l,OpN f ins outs e o) {x21 x32:AV} {Q:Ex->St->Prop} :
 ∀ (d i:Nat) (_:i+d=l.length) {hi:Hp} (_:Ok hi) {x10 x11 x12 x13 x16:AV}
  (hQ:∀ hj x10 x11 x12 x13 x16,Ok hj->hi.next<=hj.next->(∀ n,n<hi.next->hj.get n=hi.get n)->Q (.exit 4) (.mk [x0,x1,x2,x3,x4,x5,x6,x7,x8,x9,x10,x11,x12,x13,vi e,.s (jae ja6 l),x16,vi l.length,vi l.length,x19,x20,x21,x22,x23,x24,x25,x26,x27,x28,x29,x30,x31,x32,.s (jae jeq (jb8 f.blocks ins outs f.values.length)),x34,x35,x36] hj)),
  W FU jvx.loop (.mk [x0,x1,x2,x3,x4,x5,x6,x7,x8,x9,x10,x11,x12,x13,vi e,.s (jae ja6 l),x16,vi l.length,vi i,x19,x20,x21,x22,x23,x24,x25,x26,x27,x28,x29,x30,x31,x32,.s (jae jeq (jb8 f.blocks ins outs f.values.length)),x34,x35,x36] hi) Q
 | 0,i,hd,hi,ok,x10,x11,x12,x13,x16,hQ=>by
  obtain rfl:i=l.length:=by omega
  rw[jah]
  unfold jvx
  simp(disch:=first|omega|rfl) only[go_sem,f0n]
  exact hQ hi _ _ _ _ _ ok (f0f _) (fun _ _=>rfl)
 | d+1,i,hd,hi,ok,x10,x11,x12,x13,x16,hQ=>by
  have hlt:(i:Int)<(l.length:Int):=by omega
  have hs:(i:Int)+1=((i+1:Nat):Int):=by omega
  obtain⟨o,hu⟩:∃ u,l[i]?=some u:=⟨_,f0a (by omega)⟩
  obtain⟨o1,o2,o3⟩:=ho o (f0b hu)
  have hix:=jag (enc:=ja6) (size:=5) hu rfl
  obtain⟨hA,eA,okA,nA,xA,gA⟩:=jbn ok [.int .i64 0,.int .i64 0,.bool false,.int .i64 0,.int .i64 0] (ja6 o) 48
  have xA':=xA
  unfold ja6 at xA eA
  rw[jah]
  unfold jvx qcg
  by_cases el:o.late=true
  .have w1:(e:Int)+1=((e+1:Nat):Int):=by omega
   rw[show lt1 o=1 from if_pos el] at o2 o3
   rw[el] at xA eA
   simp(disch:=first|omega|rfl) only[go_sem,jab,eq_true hlt,hix,ja6,eA,xA,el,w1]
   refine qul (o:=o) (pp:=e+1) hnb o1 (by omega) o2 o3 okA xA' ?_
   simp(disch:=first|omega|rfl) only[go_sem,jab,hs]
   exact qpw hnb hl he ho d (i+1) (by omega) okA (fun hj x10 x11 x12 x13 x16 k1 k2 k3=>hQ hj x10 x11 x12 x13 x16 k1 (by omega) (fun n hn=>(k3 n (by omega)).trans (gA n hn)))
  .have ef:o.late=false:=by cases h:o.late<;>first | rfl | exact absurd h el
   rw[show lt1 o=0 from if_neg el,f1l] at o2 o3
   rw[ef] at xA eA
   simp(disch:=first|omega|rfl) only[go_sem,jab,eq_true hlt,hix,ja6,eA,xA,ef]
   refine qul (o:=o) (pp:=e) hnb o1 (by omega) o2 o3 okA xA' ?_
   simp(disch:=first|omega|rfl) only[go_sem,jab,hs]
   exact qpw hnb hl he ho d (i+1) (by omega) okA (fun hj x10 x11 x12 x13 x16 k1 k2 k3=>hQ hj x10 x11 x12 x13 x16 k1 (by omega) (fun n hn=>(k3 n (by omega)).trans (gA n hn)))
theorem qum (hnb:f.blocks.length<=16) {l:List Ms.Ins} {k st:Nat} (hl:l.length<=40) (hst:(jam f.blocks)[k]?=some st) (hs2:st<=10000) (h6:∀ y∈l,y.ops.length<=6) (ho:∀ (i:Nat) (y:Ms.Ins),l[i]?=some y->∀ o∈y.ops,OpN f ins outs (st+1+2*i) o) {Q:Ex->St->Prop} :
 ∀ (d i:Nat) (_:i+d=l.length) {hi:Hp} (_:Ok hi) {x10 x11 x12 x13 x14 x15 x16 x17 x18 x19 x20 x23:AV}
  (hQ:∀ hj x10 x11 x12 x13 x14 x15 x16 x17 x18 x19 x20 x23,Ok hj->hi.next<=hj.next->(∀ n,n<hi.next->hj.get n=hi.get n)->Q (.exit 2) (.mk [x0,x1,x2,x3,x4,x5,x6,x7,x8,x9,x10,x11,x12,x13,x14,x15,x16,x17,x18,x19,x20,vi k,.s (jae jco l),x23,vi l.length,vi l.length,x26,x27,x28,x29,x30,x31,.s (jae jal (jam f.blocks)),.s (jae jeq (jb8 f.blocks ins outs f.values.length)),x34,x35,x36] hj)),
  W FU jvy.loop (.mk [x0,x1,x2,x3,x4,x5,x6,x7,x8,x9,x10,x11,x12,x13,x14,x15,x16,x17,x18,x19,x20,vi k,.s (jae jco l),x23,vi l.length,vi i,x26,x27,x28,x29,x30,x31,.s (jae jal (jam f.blocks)),.s (jae jeq (jb8 f.blocks ins outs f.values.length)),x34,x35,x36] hi) Q
 | 0,i,hd,hi,ok,x10,x11,x12,x13,x14,x15,x16,x17,x18,x19,x20,x23,hQ=>by
  obtain rfl:i=l.length:=by omega
  rw[jah]
  unfold jvy
  simp(disch:=first|omega|rfl) only[go_sem,f0n]
  exact hQ hi _ _ _ _ _ _ _ _ _ _ _ _ ok (f0f _) (fun _ _=>rfl)
 | d+1,i,hd,hi,ok,x10,x11,x12,x13,x14,x15,x16,x17,x18,x19,x20,x23,hQ=>by
  have hlt:(i:Int)<(l.length:Int):=by omega
  have hs:(i:Int)+1=((i+1:Nat):Int):=by omega
  obtain⟨y,hu⟩:∃ u,l[i]?=some u:=⟨_,f0a (by omega)⟩
  have o1:=ho i y hu
  have o6:=h6 y (f0b hu)
  have hix:=jag (enc:=jco) (size:=3) hu rfl
  have hst':=jag (enc:=jal) (size:=1) hst rfl
  obtain⟨hA,eA,okA,nA,xA,gA⟩:=jbn ok [.int .i64 0,.nilSlice,.nilSlice] (jco y) 46
  have lo1:=jaf (enc:=ja6) (l:=y.ops)
  unfold jco at xA eA
  obtain⟨e,ee⟩:∃ e,st+1+2*i=e:=⟨_,rfl⟩
  rw[ee] at o1
  have w1:(st:Int)+1+2*(i:Int)=(e:Int):=by omega
  rw[jah]
  unfold jvy qch
  simp(disch:=first|omega|rfl) only[go_sem,jab,eq_true hlt,hix,jco,eA,xA,lo1,hst',jal,w1]
  refine qpw hnb (l:=y.ops) (e:=e) o6 (by omega) o1 y.ops.length 0 (by omega) okA (fun hj x10 x11 x12 x13 x16 kj nj gj=>?_)
  simp(disch:=first|omega|rfl) only[go_sem,jab,hs]
  exact qum hnb hl hst hs2 h6 ho d (i+1) (by omega) kj (fun hk x10 x11 x12 x13 x14 x15 x16 x17 x18 x19 x20 x23 k1 k2 k3=>hQ hk x10 x11 x12 x13 x14 x15 x16 x17 x18 x19 x20 x23 k1 (by omega) (fun n hn=>(k3 n (by omega)).trans ((gj n (by omega)).trans (gA n hn))))
theorem qun (hnb:f.blocks.length<=16) {l:List Nat} {k st:Nat} (hl:l.length<=5) (hst:(jam f.blocks)[k]?=some st) (ho:∀ v∈l,v<f.values.length/\jdz (jf1 f.blocks ins outs v f.blocks.length) st=true) {x10 x11 x12 x13 x14 x15 x16 x17 x18:AV} {Q:Ex->St->Prop} :
 ∀ (d i:Nat) (_:i+d=l.length) {hi:Hp} (_:Ok hi) {x4 x5 x7:AV}
  (hQ:∀ x4 x5 x7,Q (.exit 6) (.mk [x0,x1,x2,x3,x4,x5,.s (jae jal l),x7,vi l.length,vi l.length,x10,x11,x12,x13,x14,x15,x16,x17,x18,x19,x20,vi k,x22,x23,x24,x25,x26,x27,x28,x29,x30,x31,.s (jae jal (jam f.blocks)),.s (jae jeq (jb8 f.blocks ins outs f.values.length)),x34,x35,x36] hi)),
  W FU jvz.loop (.mk [x0,x1,x2,x3,x4,x5,.s (jae jal l),x7,vi l.length,vi i,x10,x11,x12,x13,x14,x15,x16,x17,x18,x19,x20,vi k,x22,x23,x24,x25,x26,x27,x28,x29,x30,x31,.s (jae jal (jam f.blocks)),.s (jae jeq (jb8 f.blocks ins outs f.values.length)),x34,x35,x36] hi) Q
 | 0,i,hd,hi,ok,x4,x5,x7,hQ=>by
  obtain rfl:i=l.length:=by omega
  rw[jah]
  unfold jvz
  simp(disch:=first|omega|rfl) only[go_sem,f0n]
  exact hQ ..
 | d+1,i,hd,hi,ok,x4,x5,x7,hQ=>by
  have hlt:(i:Int)<(l.length:Int):=by omega
  have hs:(i:Int)+1=((i+1:Nat):Int):=by omega
  obtain⟨v,hu⟩:∃ u,l[i]?=some u:=⟨_,f0a (by omega)⟩
  obtain⟨hv,o1⟩:=ho v (f0b hu)
  have hix:=jag (enc:=jal) (size:=1) hu rfl
  have hst':=jag (enc:=jal) (size:=1) hst rfl
  have hir:=jag (enc:=jeq) (size:=1) (jys (bs:=f.blocks) (ins:=ins) (outs:=outs) hv) rfl
  have hrl:=jky (bs:=f.blocks) (ins:=ins) (outs:=outs) (v:=v) f.blocks.length
  have hN:=fun {n:Nat} {h:Hp} {Q:AV->Hp->Prop}=>j4d (l:=jf1 f.blocks ins outs v f.blocks.length) (n:=n) (h:=h) (Q:=Q) (by omega)
  rw[jah]
  unfold jvz qcj
  simp(disch:=first|omega|rfl) only[go_sem,jab,eq_true hlt,hix,jal]
  unfold qci
  simp(disch:=first|omega|rfl) only[go_sem,jab,hir,jeq,hst',jal,hN,o1,hs]
  exact qun hnb hl hst ho d (i+1) (by omega) ok hQ
end
section
variable {f:Fc} {ins outs:List (List Nat)} {s:List Bool} (k:SpFc f.blocks f.values.length ins outs s)
include k
theorem qup {b:Ms.Blk} (hb:f.blocks[q]?=some b) {st:Nat} (hst:(jam f.blocks)[q]?=some st) {i:Nat} {x:Ms.Ins} (hi:b.instrs[i]?=some x) {o:Ms.Opd} (ho:o∈x.ops) (hv:o.value<f.values.length):OpN f ins outs (st+1+2*i) o:=by
 have e1:(jam f.blocks).getD q 0=st:=by rw[f0d,hst];rfl
 obtain⟨n,h1,h2⟩:=jdi hb
 rw[hst] at h1;cases h1
 have e2:(jam f.blocks).getD (q+1) 0=st+2+2*b.instrs.length:=by rw[f0d,h2];rfl
 have hil:=(f0h.1 hi).1
 have fa:=k.at (v:=o.value) hb
 have hl:=jsg o
 have nd:=fun {p:Nat}=>k.need (v:=o.value) (p:=p) hb
 rw[e1,e2] at nd
 rw[e1] at fa
 refine⟨hv,(nd (by omega) (by omega)).2 ?_,fun h2=>?_⟩
 .by_cases h2:o.kind=2
  .obtain ⟨a1,a2,a3⟩:=fa.df i x o hi ho h2 rfl
   exact⟨a1,by omega,by omega⟩
  .exact fa.us i x o hi ho h2 rfl
 .obtain ⟨a1,a2,a3⟩:=fa.df i x o hi ho h2 rfl
  cases e:jdz (jf1 f.blocks ins outs o.value f.blocks.length) (st+1+2*i+lt1 o - 1) with
  | false=>rfl
  | true =>
   obtain⟨_,b2,_⟩:=(nd (by omega) (by omega)).1 e
   omega
theorem qpx {b:Ms.Blk} (hb:f.blocks[q]?=some b) {st:Nat} (hst:(jam f.blocks)[q]?=some st) {v:Nat} (hv:v∈b.params):jdz (jf1 f.blocks ins outs v f.blocks.length) st=true:=by
 have e1:(jam f.blocks).getD q 0=st:=by rw[f0d,hst];rfl
 obtain⟨n,h1,h2⟩:=jdi hb
 rw[hst] at h1;cases h1
 have e2:(jam f.blocks).getD (q+1) 0=st+2+2*b.instrs.length:=by rw[f0d,h2];rfl
 have fa:=k.at (v:=v) hb
 have nd:=k.need (v:=v) (p:=st) hb
 rw[e1,e2] at nd
 rw[e1] at fa
 have ht:=fa.t1.2 (.inr (jkw.2 (.inl hv)))
 have hb':=fa.bd ht
 have hf:=(fa.fr ht).2 (.inr hv)
 exact(nd (by omega) (by omega)).2 ⟨ht,by omega,by omega⟩
theorem quq {N fx:Nat} (lv:LvOk f N) {Q:Ex->St->Prop} :
 ∀ (d i:Nat) (_:i+d=f.blocks.length) {hi:Hp} (_:Ok hi) {x4 x5 x6 x7 x8 x9 x10 x11 x12 x13 x14 x15 x16 x17 x18 x19 x20 x21 x22 x23 x24 x25 x26 x28:AV}
  (hQ:∀ hj x4 x5 x6 x7 x8 x9 x10 x11 x12 x13 x14 x15 x16 x17 x18 x19 x20 x21 x22 x23 x24 x25 x26 x28,Q (.exit 0) (.mk [x0,x1,x2,x3,x4,x5,x6,x7,x8,x9,x10,x11,x12,x13,x14,x15,x16,x17,x18,x19,x20,x21,x22,x23,x24,x25,x26,.s (jae jaw f.blocks),x28,vi f.blocks.length,vi f.blocks.length,x31,.s (jae jal (jam f.blocks)),.s (jae jeq (jb8 f.blocks ins outs f.values.length)),x34,.s (.ptr fx 0),x36] hj)),
  W FU jv0.loop (.mk [x0,x1,x2,x3,x4,x5,x6,x7,x8,x9,x10,x11,x12,x13,x14,x15,x16,x17,x18,x19,x20,x21,x22,x23,x24,x25,x26,.s (jae jaw f.blocks),x28,vi f.blocks.length,vi i,x31,.s (jae jal (jam f.blocks)),.s (jae jeq (jb8 f.blocks ins outs f.values.length)),x34,.s (.ptr fx 0),x36] hi) Q
 | 0,i,hd,hi,ok,x4,x5,x6,x7,x8,x9,x10,x11,x12,x13,x14,x15,x16,x17,x18,x19,x20,x21,x22,x23,x24,x25,x26,x28,hQ=>by
  obtain rfl:i=f.blocks.length:=by omega
  rw[jah]
  unfold jv0
  simp(disch:=first|omega|rfl) only[go_sem,f0n]
  exact hQ ..
 | d+1,i,hd,hi,ok,x4,x5,x6,x7,x8,x9,x10,x11,x12,x13,x14,x15,x16,x17,x18,x19,x20,x21,x22,x23,x24,x25,x26,x28,hQ=>by
  have hlt:(i:Int)<(f.blocks.length:Int):=by omega
  have hs:(i:Int)+1=((i+1:Nat):Int):=by omega
  obtain⟨b,hb⟩:∃ u,f.blocks[i]?=some u:=⟨_,f0a (by omega)⟩
  have hnb:=lv.nb
  obtain⟨p1,p2,p3,p4,p5,p6⟩:=lv.blk b (f0b hb)
  obtain⟨st,hst1,hst2,hst3⟩:=jyq lv (b:=i) (by omega)
  have hix:=jag (enc:=jaw) (size:=3) hb rfl
  obtain⟨hA,eA,okA,nA,xA,gA⟩:=jbn ok [.nilSlice,.nilSlice,.nilSlice] (jaw b) 42
  have lp:=jaf (enc:=jal) (l:=b.params)
  have li:=jaf (enc:=jco) (l:=b.instrs)
  unfold jaw at xA eA
  rw[jah]
  unfold jv0 qck
  simp(disch:=first|omega|rfl) only[go_sem,jab,eq_true hlt,hix,jaw,eA,xA,li]
  refine qum hnb (l:=b.instrs) (k:=i) (st:=st) p2 hst1 hst3 (fun y hy=>(p5 y hy).1) (fun j y hj o ho=>qup k hb hst1 hj ho ((p5 y (f0b hj)).2 o ho)) b.instrs.length 0 (by omega) okA (fun hj x10 x11 x12 x13 x14 x15 x16 x17 x18 x19 x20 x23 kj nj gj=>?_)
  have xj:=(gj _ (by omega)).trans xA
  simp(disch:=first|omega|rfl) only[go_sem,xj,lp]
  refine qun hnb (l:=b.params) (k:=i) (st:=st) p1 hst1 (fun v hv=>⟨p4 v hv,qpx k hb hst1 hv⟩) b.params.length 0 (by omega) kj (fun x4 x5 x7=>?_)
  simp(disch:=first|omega|rfl) only[go_sem,jab,hs]
  exact quq lv d (i+1) (by omega) kj hQ
end
theorem qur {h:Hp} (ok:Ok h) {a b:Int} {l:List Pc} (ha:In6 a) (hb:In6 b) (pin:∀ q∈l,Pin q) {xl:SV} (lx:LstE jb3 7 xl l):WC FU 6 [vi a,vi b,.s xl] h (fun v _=>v=.s (.bool true)):=by
 refine ja2 ((quk rfl rfl rfl rfl).trans (jq3 rfl)) qym rfl ?_
 unfold qh7
 obtain⟨m1,m2⟩:=j8z a b
 obtain⟨m,em⟩:∃ m,jqy a b=m:=⟨_,rfl⟩
 rw[em] at m1 m2
 obtain⟨s,o,hp,hu⟩:=qby m1 m2 l
 obtain⟨f,ef⟩:∃ f,je9 m l=f:=⟨_,rfl⟩
 rw[ef] at o hp hu
 have hpos:=ok.pos
 have lv:=qpr o.k o.hv
 have hnb:=lv.nb
 have hnv:=lv.nv
 obtain⟨ins,outs,jj,hfx,hS⟩:=qh9 o m1 m2
 have k:=qcs o hp hu hfx
 obtain⟨hA,eA,okA,nA,xA,gA⟩:=jbn ok [.int .i64 0,.int .i64 0] [si m.1,si m.2] 25
 obtain⟨hB,eB,okB,nB,xB,gB⟩:=jbn okA [.nilSlice,.nilSlice] [jae jal f.values,jae jaw f.blocks] 30
 have yA:=(gB _ (by omega)).trans xA
 rw[nA] at eB xB
 have lb:=jaf (enc:=jaw) (l:=f.blocks)
 have lv1:=jaf (enc:=jal) (l:=f.values)
 have ls:=jaf (enc:=jeq) (l:=jb8 f.blocks ins outs f.values.length)
 have lt:=jaf (enc:=jal) (l:=jam f.blocks)
 have els:(jb8 f.blocks ins outs f.values.length).length=f.values.length:=by unfold jb8;simp
 rw[els] at ls
 rw[jev] at lt
 have hst:=fun {h:Hp} {Q:AV->Hp->Prop}=>j5z (h:=h) (f:=f) (Q:=Q) (by omega) (fun b hb=>by have:=(lv.blk b hb).2.1;omega)
 have hs:(f.blocks.length:Int)+1=((f.blocks.length+1:Nat):Int):=by omega
 have c0:∀ n:Nat,((n:Int)≠(n:Int))=False:=fun n=>eq_false (fun h=>h rfl)
 simp(disch:=first|omega|rfl) only[go_sem,jab,jql ha hb,em,qp3,eA,nA,xA,j4c m1 m2 pin lx,ef,j0i,eB,yA,xB,hS,j4b,hst,lb,lv1,ls,lt,hs,c0]
 unfold qcl
 simp(disch:=first|omega|rfl) only[go_sem,xB,lb]
 refine quq k lv f.blocks.length 0 (by omega) okB (fun hj x4 x5 x6 x7 x8 x9 x10 x11 x12 x13 x14 x15 x16 x17 x18 x19 x20 x21 x22 x23 x24 x25 x26 x28=>?_)
 simp(disch:=first|omega|rfl) only[go_sem]
end Go.Proofs.Ytehhjbfmjdlcjaa.Ev
