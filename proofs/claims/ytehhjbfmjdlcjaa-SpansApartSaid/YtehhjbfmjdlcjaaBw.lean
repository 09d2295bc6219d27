/- Spans stand in their order and do not meet; each value has one: the law's answer. -/
import Derived.Test.YtehhjbfmjdlcjaaBuA
namespace Go.Proofs.Ytehhjbfmjdlcjaa.Ev
open Go Go.RowKit Go.Proofs.Ytehhjbfmjdlcjaa.Ms
attribute [local go_sem] Int.reduceToNat reduceCtorEq Nat.reduceAdd Nat.reduceMul Nat.reduceEqDiff Int.reduceEq Int.reduceLT Int.reduceLE Int.reduceNeg Int.reduceAdd Int.reduceSub Int.reduceMul Int.reduceNe
attribute [local go_sem ↓] reduceIte
set_option linter.all false
set_option maxRecDepth 100000
set_option maxHeartbeats 4000000
variable {x0 x1 x2 x3 x13 x14 x15 x16 x17:AV} {Q:Ex->St->Prop}
theorem qpy {l:List (Nat×Nat)} (hl:l.length<=10000) (ha:∀ q∈l,q.1<q.2) (hb:∀ (i:Nat) (p q:Nat×Nat),l[i]?=some p->l[i+1]?=some q->p.2<q.1) {x7 x9 x10 x11 x12:AV} :
 ∀ (d i:Nat) (_:i+d=l.length) {hi:Hp} (_:Ok hi) {x4 x5:AV}
  (hQ:∀ x4 x5 x6,Q (.exit 2) (.mk [x0,x1,x2,x3,x4,x5,x6,x7,.s (jae jg5 l),x9,x10,x11,x12,x13,x14,x15,x16,x17] hi)),
  W FU jv1.loop (.mk [x0,x1,x2,x3,x4,x5,vi i,x7,.s (jae jg5 l),x9,x10,x11,x12,x13,x14,x15,x16,x17] hi) Q
 | 0,i,hd,hi,ok,x4,x5,hQ=>by
  obtain rfl:i=l.length:=by omega
  have ll:=jaf (enc:=jg5) (l:=l)
  rw[jah]
  unfold jv1
  simp(disch:=first|omega|rfl) only[go_sem,ll,f0n]
  exact hQ ..
 | d+1,i,hd,hi,ok,x4,x5,hQ=>by
  have hlt:(i:Int)<(l.length:Int):=by omega
  have hs:(i:Int)+1=((i+1:Nat):Int):=by omega
  have ll:=jaf (enc:=jg5) (l:=l)
  obtain⟨q,hu⟩:∃ u,l[i]?=some u:=⟨_,f0a (by omega)⟩
  have hq:=ha q (f0b hu)
  have hix:=jag (enc:=jg5) (size:=2) hu rfl
  have c1:((q.2:Int)<=(q.1:Int))=False:=eq_false (by omega)
  rw[jah]
  unfold jv1 qcn
  simp(disch:=first|omega|rfl) only[go_sem,jab,ll,eq_true hlt]
  unfold qcm
  cases i with
  | zero =>
   have e0:((0:Nat):Int)=0:=rfl
   rw[e0] at hix hs ⊢
   simp(disch:=first|omega|rfl) only[go_sem,jab,hix,jg5,c1,hs]
   exact qpy hl ha hb d 1 (by omega) ok hQ
  | succ j =>
   obtain⟨p,hp⟩:∃ u,l[j]?=some u:=⟨_,f0a (by omega)⟩
   have hpq:=hb j p q hp hu
   have hip:=jag (enc:=jg5) (size:=2) hp rfl
   have w1:(((j+1:Nat):Int)) - 1=(j:Int):=by omega
   have c2:((0:Int)<((j+1:Nat):Int))=True:=eq_true (by omega)
   have c3:((q.1:Int)<=(p.2:Int))=False:=eq_false (by omega)
   simp(disch:=first|omega|rfl) only[go_sem,jab,hix,jg5,c1,c2,w1,hip,c3,hs]
   exact qpy hl ha hb d (j+1+1) (by omega) ok hQ
theorem qus {L:List (List (Nat×Nat))} (hL:L.length<=10000) (hr:∀ l∈L,l≠[]/\l.length<=10000/\(∀ q∈l,q.1<q.2)/\∀ (i:Nat) (p q:Nat×Nat),l[i]?=some p->l[i+1]?=some q->p.2<q.1) :
 ∀ (d i:Nat) (_:i+d=L.length) {hi:Hp} (_:Ok hi) {x4 x5 x6 x7 x8 x10:AV}
  (hQ:∀ x4 x5 x6 x7 x8 x10,Q (.exit 0) (.mk [x0,x1,x2,x3,x4,x5,x6,x7,x8,.s (jae jeq L),x10,vi L.length,vi L.length,x13,x14,x15,x16,x17] hi)),
  W FU jv2.loop (.mk [x0,x1,x2,x3,x4,x5,x6,x7,x8,.s (jae jeq L),x10,vi L.length,vi i,x13,x14,x15,x16,x17] hi) Q
 | 0,i,hd,hi,ok,x4,x5,x6,x7,x8,x10,hQ=>by
  obtain rfl:i=L.length:=by omega
  rw[jah]
  unfold jv2
  simp(disch:=first|omega|rfl) only[go_sem,f0n]
  exact hQ ..
 | d+1,i,hd,hi,ok,x4,x5,x6,x7,x8,x10,hQ=>by
  have hlt:(i:Int)<(L.length:Int):=by omega
  have hs:(i:Int)+1=((i+1:Nat):Int):=by omega
  obtain⟨l,hu⟩:∃ u,L[i]?=some u:=⟨_,f0a (by omega)⟩
  obtain⟨h1,h2,h3,h4⟩:=hr l (f0b hu)
  have hix:=jag (enc:=jeq) (size:=1) hu rfl
  have ll:=jaf (enc:=jg5) (l:=l)
  have hp:=f1g.2 h1
  have c1:((l.length:Int)=0)=False:=eq_false (by omega)
  have e0:(0:Int)=((0:Nat):Int):=rfl
  rw[jah]
  unfold jv2 qcp
  simp(disch:=first|omega|rfl) only[go_sem,jab,eq_true hlt,hix,jeq,ll,c1]
  unfold qco
  simp(disch:=first|omega|rfl) only[go_sem]
  refine qpy h2 h3 h4 l.length 0 (by omega) ok (fun x4 x5 x6=>?_)
  simp(disch:=first|omega|rfl) only[go_sem,jab,hs]
  exact qus hL hr d (i+1) (by omega) ok hQ
theorem qut {h:Hp} (ok:Ok h) {a b:Int} {l:List Pc} (ha:In6 a) (hb:In6 b) (pin:∀ q∈l,Pin q) {xl:SV} (lx:LstE jb3 7 xl l):WC FU 7 [vi a,vi b,.s xl] h (fun v _=>v=.s (.bool true)):=by
 refine ja2 ((quk rfl rfl rfl rfl).trans (jq3 rfl)) qyn rfl ?_
 unfold qh8
 obtain⟨m1,m2⟩:=j8z a b
 obtain⟨m,em⟩:∃ m,jqy a b=m:=⟨_,rfl⟩
 rw[em] at m1 m2
 obtain⟨s,o,hp,hu⟩:=qby m1 m2 l
 obtain⟨f,ef⟩:∃ f,je9 m l=f:=⟨_,rfl⟩
 rw[ef] at o hp hu
 have hpos:=ok.pos
 have lv:=qpr o.k o.hv
 have hnb:=lv.nb
 have hnv:=lv.nv
 obtain⟨ins,outs,jj,hfx,hS⟩:=qh9 o m1 m2
 have k:=qcs o hp hu hfx
 obtain⟨hA,eA,okA,nA,xA,gA⟩:=jbn ok [.int .i64 0,.int .i64 0] [si m.1,si m.2] 25
 obtain⟨hB,eB,okB,nB,xB,gB⟩:=jbn okA [.nilSlice,.nilSlice] [jae jal f.values,jae jaw f.blocks] 30
 have yA:=(gB _ (by omega)).trans xA
 rw[nA] at eB xB
 have lv1:=jaf (enc:=jal) (l:=f.values)
 have ls:=jaf (enc:=jeq) (l:=jb8 f.blocks ins outs f.values.length)
 have els:(jb8 f.blocks ins outs f.values.length).length=f.values.length:=by unfold jb8;simp
 have c0:∀ n:Nat,((n:Int)≠(n:Int))=False:=fun n=>eq_false (fun h=>h rfl)
 have hr:∀ l∈jb8 f.blocks ins outs f.values.length,l≠[]/\l.length<=10000/\(∀ q∈l,q.1<q.2)/\∀ (i:Nat) (p q:Nat×Nat),l[i]?=some p->l[i+1]?=some q->p.2<q.1:=by
  intro l hl
  unfold jb8 at hl
  obtain⟨v,hv,rfl⟩:=f07.1 hl
  obtain⟨r1,r2,r3⟩:=k.row v
  refine⟨?_,by have:=jky (bs:=f.blocks) (ins:=ins) (outs:=outs) (v:=v) f.blocks.length;omega,fun q hq=>(r1.lt q hq).1,fun i p q h1 h2=>?_⟩
  .have hm:v∈jcs f.blocks:=hp.mem_iff.2 hv
   unfold jcs at hm
   obtain⟨c,hc,hvc⟩:=f2a.1 hm
   obtain⟨b,hb,rfl⟩:=f07.1 hc
   obtain⟨j,hj⟩:=f1q hb
   exact r3 ⟨j,(f0h.1 hj).1,(k.at hj).t1.2 (.inr hvc)⟩
  .obtain ⟨a1,a2⟩:=f0h.1 h1
   obtain⟨b1,b2⟩:=f0h.1 h2
   have:=List.pairwise_iff_getElem.1 r1.ap i (i+1) a1 b1 (by omega)
   rw[a2,b2] at this
   exact this
 rw[els] at ls
 simp(disch:=first|omega|rfl) only[go_sem,jab,jql ha hb,em,qp3,eA,nA,xA,j4c m1 m2 pin lx,ef,j0i,eB,yA,xB,hS,j4b,lv1,ls,c0]
 unfold qcq
 simp(disch:=first|omega|rfl) only[go_sem,ls]
 generalize jb8 f.blocks ins outs f.values.length=L at els hr ⊢
 rw[←els]
 refine qus (by omega) hr L.length 0 (by omega) okB (fun x4 x5 x6 x7 x8 x10=>?_)
 simp(disch:=first|omega|rfl) only[go_sem]
end Go.Proofs.Ytehhjbfmjdlcjaa.Ev
