/- Claims of an instruction: what the code tells. -/
import Derived.Test.YtalbjjoppndjjaaSoA
import Derived.Test.YtalbjjoppndjjaaSoC
namespace Go.Proofs.Ytalbjjoppndjjaa.Ev
open Go Go.RowKit Go.Proofs.Ytalbjjoppndjjaa.Ms
attribute [local go_sem] Int.reduceToNat reduceCtorEq Nat.reduceAdd Nat.reduceMul Nat.reduceEqDiff Int.reduceEq Int.reduceLT Int.reduceLE Int.reduceNeg Int.reduceAdd Int.reduceSub Int.reduceMul Int.reduceNe
attribute [local go_sem ↓] reduceIte
set_option linter.all false
set_option maxRecDepth 100000
set_option maxHeartbeats 4000000
variable {x1 x3 x4 x5 x9:AV} {Q:Ex->St->Prop} {f:Fc} {h:Hp} {a e n bF:Nat}
def j2r (e:Nat) (r:Nat×Nat):C5:=C5.of r.1 r.2 ((e:Int)+1) ((e:Int)+2) (-1)
def jdh (e:Nat) (o:Ms.Opd):Nat:=if o.kind=2/\o.late=true then e+1 else e
def toC (e:Nat) (o:Ms.Opd):Nat:=if o.kind=1/\o.late=false then e+1 else e+2
def opC (vs:List Nat) (ops:List Ms.Opd) (e:Nat) (o:Ms.Opd):List C5 :=
 if (jke ops o).limit=4 then [C5.of (cl vs o.value) (jke ops o).n (jdh e o) (toC e o) o.value] else []
def j4g (vs:List Nat) (x:Ms.Ins) (e:Nat):List C5:=x.spoils.map (j2r e)++x.ops.flatMap (opC vs x.ops e)
theorem bd5 {b c d:Nat} {e:Int} (ha:a<=1000000) (hb:b<=1000000) (hc:c<=1000000) (hd:d<=1000000) (he:-1<=e/\e<=1000000):∀ v∈[(a:Int),(b:Int),(c:Int),(d:Int),e],-1152921504606846976<=v/\v<=1152921504606846976:=by
 intro v hv
 simp only[f0h,f1f,or_false] at hv
 rcases hv with rfl | rfl | rfl | rfl | rfl<;>omega
theorem qpk {r:Nat×Nat} (he:e<=100000) (h1:r.1<=1000000) (h2:r.2<=1000000):(j2r e r).s=[si r.1,si r.2,si ((e:Int)+1),si ((e:Int)+2),si (-1)] :=
 C5.of_s (bd5 (c:=e+1) (d:=e+2) h1 h2 (by omega) (by omega) (by omega))
theorem qs6 {f t v:Nat} (h1:a<=1000000) (h2:n<=1000000) (h3:f<=1000000) (h4:t<=1000000) (h5:v<=1000000):(C5.of a n f t v).s=[si a,si n,si f,si t,si v] :=
 C5.of_s (bd5 h1 h2 h3 h4 (by omega))
theorem qpl {F:Fns} {sp:List (Nat×Nat)} {lo:Nat} (hl:sp.length<=1000) (he:e<=100000) (hs2:∀ r∈sp,r.1<=1000/\r.2<=1000) (hlo:1<=lo) {fin:List C5} (hf:fin.length<=90000) {x0 x6 x7 x8 x10 x11 x12 x13 x14 x15 x22:AV} :
 ∀ (d i:Nat) (_:i+d=sp.length) {hi:Hp} {x:SV} {l:List C5} (_:Ok hi) (_:lo<=hi.next) (_:CR lo hi x l) (_:l++(sp.drop i).map (j2r e)=fin) {x16 x19:AV}
  (hQ:∀ hj x x16 x19,Ok hj->hi.next<=hj.next->(∀ n,n<lo->hj.get n=hi.get n)->CR lo hj x fin->Q (.exit 0) (.mk [x0,x1,vi e,x3,x4,x5,x6,x7,x8,x9,x10,x11,x12,x13,x14,x15,x16,.s x,.s (jae jcr sp),x19,vi sp.length,vi sp.length,x22] hj)),
  W F jng.loop (.mk [x0,x1,vi e,x3,x4,x5,x6,x7,x8,x9,x10,x11,x12,x13,x14,x15,x16,.s x,.s (jae jcr sp),x19,vi sp.length,vi i,x22] hi) Q
 | 0,i,hd,hi,x,l,ok,hn,k,hfin,x16,x19,hQ=>by
  obtain rfl:i=sp.length:=by omega
  rw[List.drop_length,List.map_nil,f05] at hfin
  subst hfin
  rw[jaj]
  unfold jng
  simp(disch:=first|omega|rfl) only[go_sem,f0u]
  exact hQ hi _ _ _ ok (f0f _) (fun _ _=>rfl) k
 | d+1,i,hd,hi,x,l,ok,hn,k,hfin,x16,x19,hQ=>by
  have hil:i<sp.length:=by omega
  have hlt:(i:Int)<(sp.length:Int):=by omega
  have hs:(i:Int)+1=((i+1:Nat):Int):=by omega
  obtain⟨r,hu⟩:∃ u,sp[i]?=some u:=⟨_,f0a hil⟩
  obtain⟨r1,r2⟩:=hs2 r (f0c hu)
  have hix:=jag (enc:=jcr) (size:=2) hu rfl
  have hdr:sp.drop i=r::sp.drop (i+1):=by
   rw[f1d hil];congr 1;exact(f0t.1 hu).2
  rw[hdr,f3v] at hfin
  have hfin':(l++[j2r e r])++(sp.drop (i+1)).map (j2r e)=fin:=by rw[←hfin];simp
  have hll:l.length<=90000:=by rw[←hfin] at hf;simp at hf;omega
  obtain⟨hA,eA,okA,nA,xA,gA⟩:=jbv ok [.int .i64 0,.int .i64 0] (jcr r) 48
  have kA:=k.keep (h1:=hA) (by omega) (fun n _ h2=>gA n h2)
  obtain⟨x',hB,eB,okB,nB,gB,kB⟩:=kA.app1 okA hlo (by omega) (j2r e r) (by omega)
  rw[qpk he (by omega) (by omega)] at eB
  unfold jcr at xA eA
  rw[jaj]
  unfold jng j2b
  simp(disch:=first|omega|rfl) only[go_sem,jac,eq_true hlt,hix,jcr,eA,xA,eB,hs]
  exact qpl hl he hs2 hlo hf d (i+1) (by omega) okB (by omega) kB hfin' (fun hj x x16 x19 a b c d'=>hQ hj x x16 x19 a (by omega) (fun n hn'=>(c n hn').trans ((gB n hn').trans (gA n (by omega)))) d')
theorem qpm (ok:Ok h) {b:Nat} (hb:1<=b) (x:Option AB):∃ hA,h.put b x=hA/\Ok hA/\hA.next=h.next/\hA.get b=x/\∀ n,n≠b->hA.get n=h.get n :=
 ⟨_,rfl,jao ok,Hp.next_put ..,by rw[jai ok hb,if_pos rfl],fun n hn=>by rw[jai ok hb,if_neg hn]⟩
theorem qpn {F:Fns} {o p:Ms.Opd} {lo bP bO:Nat} (he:e<=100000) (hlo:1<=lo) (hv:o.value<f.values.length) (hvl:f.values.length<=1000) (hc2:∀ c∈f.values,c<2) (hpn:p.n<=1000)
 {x0 x1 x3 x5 x6 x7 x8 x10 x12 x13 x14 x15 x16 x18 x19 x20 x21 x22:AV} {Q:Ex->St->Prop} {hi:Hp} {x:SV} {l:List C5} (ok:Ok hi) (hn:lo<=hi.next) (hll:l.length<=90000) (k:CR lo hi x l)
 (xF:hi.get bF=some (.arr [jae jat f.values,jae ja0 f.blocks] 26)) (xP:hi.get bP=some (.arr (ja5 p) 59)) (xO:hi.get bO=some (.arr (ja5 o) 59)) (lF:bF<hi.next) (lP:bP<hi.next) (lO:bO<hi.next)
 (h1:p.limit≠4->∀ x8,Q (.exit 3) (.mk [x0,x1,vi e,x3,.s (.ptr bF 0),x5,x6,x7,x8,.s (.ptr bP 0),x10,.s (.ptr bO 0),x12,x13,x14,x15,x16,.s x,x18,x19,x20,x21,x22] hi))
 (h2:p.limit=4->∀ hj x x5 x6 x7 x8,Ok hj->hi.next<=hj.next->(∀ n,n<lo->hj.get n=hi.get n)->CR lo hj x (l++[C5.of (cl f.values o.value) p.n (jdh e o) (toC e o) o.value]) ->
  Q .normal (.mk [x0,x1,vi e,x3,.s (.ptr bF 0),x5,x6,x7,x8,.s (.ptr bP 0),x10,.s (.ptr bO 0),x12,x13,x14,x15,x16,.s x,x18,x19,x20,x21,x22] hj)) :
 W F juw (.mk [x0,x1,vi e,x3,.s (.ptr bF 0),x5,x6,x7,x8,.s (.ptr bP 0),x10,.s (.ptr bO 0),x12,x13,x14,x15,x16,.s x,x18,x19,x20,x21,x22] hi) Q:=by
 unfold ja5 at xP xO
 unfold juw
 by_cases c4:p.limit=4
 .have d4:((p.limit:Int)≠4)=False:=eq_false (by omega)
  obtain⟨c,hc⟩:∃ c,f.values[o.value]?=some c:=⟨_,f0a hv⟩
  have hcl:cl f.values o.value=c:=by unfold cl;rw[f0d,hc];rfl
  have hcv:=hc2 c (f0c hc)
  have hxv:=jag (enc:=jat) (size:=1) hc rfl
  have h2':=h2 c4
  rw[hcl] at h2'
  obtain⟨hC,eC,okC,nC,xC,gC⟩:=jbv ok [.int .i64 0,.int .i64 0] [si (e:Int),si ((e:Int)+2)] 50
  have w1:(e:Int)+1=((e+1:Nat):Int):=by omega
  have w2:(e:Int)+2=((e+2:Nat):Int):=by omega
  have w3:((e+2:Nat):Int) - 1=((e+1:Nat):Int):=by omega
  rw[w2] at xC eC
  have main:∀ (fr to:Nat) (hD:Hp),Ok hD->hD.next=hC.next->hD.get hi.next=some (.arr [si fr,si to] 50)->(∀ n,n<hi.next->hD.get n=hi.get n)->fr<=1000000->to<=1000000->jdh e o=fr->toC e o=to->∀ x5 x7 x8,
   W F juv (.mk [x0,x1,vi e,x3,.s (.ptr bF 0),x5,.s (.ptr hi.next 0),x7,x8,.s (.ptr bP 0),x10,.s (.ptr bO 0),x12,x13,x14,x15,x16,.s x,x18,x19,x20,x21,x22] hD) Q:=by
   intro fr to hD okD nD xD gD q1 q2 q3 q4 x5 x7 x8
   have yF:=(gD _ lF).trans xF
   have yP:=(gD _ lP).trans xP
   have yO:=(gD _ lO).trans xO
   have kD:=k.keep (h1:=hD) (by omega) (fun n _ h2=>gD n h2)
   obtain⟨x',hB,eB,okB,nB,gB,kB⟩:=kD.app1 okD hlo (by omega) (C5.of c p.n fr to o.value) (by omega)
   rw[qs6 (by omega) (by omega) q1 q2 (by omega)] at eB
   unfold juv
   simp(disch:=first|omega|rfl) only[go_sem,jac,xD,yF,yP,yO,hxv,jat,eB]
   refine h2' hB x' _ _ _ _ okB (by omega) (fun n hn'=>(gB n hn').trans (gD n (by omega))) ?_
   rw[q3,q4];exact kB
  unfold j2c
  by_cases ek1:o.kind=1
  .have k1:((o.kind:Int)=1)=True:=eq_true (by omega)
   have k2:((o.kind:Int)=2)=False:=eq_false (by omega)
   by_cases el:o.late=true
   .have q3:jdh e o=e:=by unfold jdh;rw[if_neg (by omega)]
    have q4:toC e o=e+2:=by unfold toC;rw[if_neg (by simp[el])]
    have xO':=xO
    rw[el] at xO'
    have yO:=(gC _ lO).trans xO'
    simp(disch:=first|omega|rfl) only[go_sem,jac,xP,d4,w2,eC,yO,k1,k2]
    exact main e (e+2) hC okC rfl xC gC (by omega) (by omega) q3 q4 _ _ _
   .have ef:o.late=false:=by cases h:o.late<;>first | rfl | exact absurd h el
    have q3:jdh e o=e:=by unfold jdh;rw[if_neg (by omega)]
    have q4:toC e o=e+1:=by unfold toC;rw[if_pos ⟨ek1,ef⟩]
    have xO':=xO
    rw[ef] at xO'
    have yO:=(gC _ lO).trans xO'
    obtain⟨hD,eD,okD,nD,xD,gD⟩:=qpm okC (b:=hi.next) (by omega) (some (.arr [si (e:Int),si ((e+1:Nat):Int)] 50))
    simp(disch:=first|omega|rfl) only[go_sem,jac,xP,d4,w2,eC,yO,k1,k2,xC,w3,eD]
    exact main e (e+1) hD okD nD xD (fun n hn'=>(gD n (by omega)).trans (gC n hn')) (by omega) (by omega) q3 q4 _ _ _
  .have k1:((o.kind:Int)=1)=False:=eq_false (by omega)
   by_cases ek2:o.kind=2
   .have k2:((o.kind:Int)=2)=True:=eq_true (by omega)
    by_cases el:o.late=true
    .have q3:jdh e o=e+1:=by unfold jdh;rw[if_pos ⟨ek2,el⟩]
     have q4:toC e o=e+2:=by unfold toC;rw[if_neg (by omega)]
     have xO':=xO
     rw[el] at xO'
     have yO:=(gC _ lO).trans xO'
     obtain⟨hD,eD,okD,nD,xD,gD⟩:=qpm okC (b:=hi.next) (by omega) (some (.arr [si ((e+1:Nat):Int),si ((e+2:Nat):Int)] 50))
     simp(disch:=first|omega|rfl) only[go_sem,jac,xP,d4,w2,eC,yO,k1,k2,xC,w1,eD]
     exact main (e+1) (e+2) hD okD nD xD (fun n hn'=>(gD n (by omega)).trans (gC n hn')) (by omega) (by omega) q3 q4 _ _ _
    .have ef:o.late=false:=by cases h:o.late<;>first | rfl | exact absurd h el
     have q3:jdh e o=e:=by unfold jdh;rw[if_neg (by simp[ef])]
     have q4:toC e o=e+2:=by unfold toC;rw[if_neg (by omega)]
     have xO':=xO
     rw[ef] at xO'
     have yO:=(gC _ lO).trans xO'
     simp(disch:=first|omega|rfl) only[go_sem,jac,xP,d4,w2,eC,yO,k1,k2]
     exact main e (e+2) hC okC rfl xC gC (by omega) (by omega) q3 q4 _ _ _
   .have k2:((o.kind:Int)=2)=False:=eq_false (by omega)
    have q3:jdh e o=e:=by unfold jdh;rw[if_neg (by omega)]
    have q4:toC e o=e+2:=by unfold toC;rw[if_neg (by omega)]
    have yO:=(gC _ lO).trans xO
    simp(disch:=first|omega|rfl) only[go_sem,jac,xP,d4,w2,eC,yO,k1,k2]
    exact main e (e+2) hC okC rfl xC gC (by omega) (by omega) q3 q4 _ _ _
 .have d4:((p.limit:Int)≠4)=True:=eq_true (by omega)
  simp(disch:=first|omega|rfl) only[go_sem,jac,xP,d4]
  exact h1 c4 _
structure OpsC (f:Fc) (ops:List Ms.Opd):Prop where
 len:ops.length<=1000
 val:∀ o∈ops,o.value<f.values.length/\o.n<=1000
 reu:∀ o∈ops,o.limit=5->∃ u,ops[o.n]?=some u
theorem OpsC.srcn {ops:List Ms.Opd} (k:OpsC f ops) {o:Ms.Opd} (h:o∈ops):(jke ops o).n<=1000:=by
 unfold jke
 split
 .rename_i h5
  obtain⟨u,hu⟩:=k.reu o h h5
  rw[f0d,hu]
  exact(k.val u (f0c hu)).2
 .exact (k.val o h).2
theorem j92 {F:Fns} {ops:List Ms.Opd} {sp:List (Nat×Nat)} {op lo bX:Nat} (oc:OpsC f ops) (he:e<=100000) (hlo:1<=lo) (hvl:f.values.length<=1000) (hc2:∀ c∈f.values,c<2) (lF:bF<lo) (lX:bX<lo) {fin:List C5} (hf:fin.length<=90000)
 {x0 x1 x3 x16 x18 x19 x20 x21:AV} {Q:Ex->St->Prop} :
 ∀ (d i:Nat) (_:i+d=ops.length) {hi:Hp} {x:SV} {l:List C5} (_:Ok hi) (_:lo<=hi.next) (_:CR lo hi x l) (_:hi.get bF=some (.arr [jae jat f.values,jae ja0 f.blocks] 26)) (_:hi.get bX=some (.arr [si op,jae ja5 ops,jae jcr sp] 57))
  (_:l++(ops.drop i).flatMap (opC f.values ops e)=fin) {x5 x6 x7 x8 x9 x10 x11 x13:AV}
  (hQ:∀ hj x x5 x6 x7 x8 x9 x10 x11 x13,Ok hj->hi.next<=hj.next->(∀ n,n<lo->hj.get n=hi.get n)->CR lo hj x fin->Q (.exit 2) (.mk [x0,x1,vi e,x3,.s (.ptr bF 0),x5,x6,x7,x8,x9,x10,x11,.s (jae ja5 ops),x13,vi ops.length,vi ops.length,x16,.s x,x18,x19,x20,x21,.s (.ptr bX 0)] hj)),
  W F jkp.loop (.mk [x0,x1,vi e,x3,.s (.ptr bF 0),x5,x6,x7,x8,x9,x10,x11,.s (jae ja5 ops),x13,vi ops.length,vi i,x16,.s x,x18,x19,x20,x21,.s (.ptr bX 0)] hi) Q
 | 0,i,hd,hi,x,l,ok,hn,k,xF,xX,hfin,x5,x6,x7,x8,x9,x10,x11,x13,hQ=>by
  obtain rfl:i=ops.length:=by omega
  rw[List.drop_length,List.flatMap_nil,f05] at hfin
  subst hfin
  rw[jaj]
  unfold jkp
  simp(disch:=first|omega|rfl) only[go_sem,f0u]
  exact hQ hi _ _ _ _ _ _ _ _ _ ok (f0f _) (fun _ _=>rfl) k
 | d+1,i,hd,hi,x,l,ok,hn,k,xF,xX,hfin,x5,x6,x7,x8,x9,x10,x11,x13,hQ=>by
  have hil:i<ops.length:=by omega
  have hlt:(i:Int)<(ops.length:Int):=by omega
  have hs:(i:Int)+1=((i+1:Nat):Int):=by omega
  have hlen:=oc.len
  obtain⟨o,hu⟩:∃ u,ops[i]?=some u:=⟨_,f0a hil⟩
  have hm:=f0c hu
  obtain⟨hv,hon⟩:=oc.val o hm
  have hix:=jag (enc:=ja5) (size:=5) hu rfl
  have hdr:ops.drop i=o::ops.drop (i+1):=by
   rw[f1d hil];congr 1;exact(f0t.1 hu).2
  rw[hdr,f19,←f0q] at hfin
  have hll:l.length<=90000:=by rw[←hfin] at hf;simp at hf;omega
  obtain⟨hA,eA,okA,nA,xA,gA⟩:=jbv ok [.int .i64 0,.int .i64 0,.bool false,.int .i64 0,.int .i64 0] (ja5 o) 59
  obtain⟨hB,eB,okB,nB,xB,gB⟩:=jbv okA [.int .i64 0,.int .i64 0,.bool false,.int .i64 0,.int .i64 0] (ja5 o) 59
  have yA:=(gB _ (by omega)).trans xA
  have yX:=(gB _ (by omega)).trans ((gA _ (by omega)).trans xX)
  have yF:=(gB _ (by omega)).trans ((gA _ (by omega)).trans xF)
  have kB:=k.keep (h1:=hB) (by omega) (fun n _ h2=>(gB n (by omega)).trans (gA n h2))
  rw[nA] at xB eB
  have nA1:hA.next=hi.next+1:=nA
  have hsn:=oc.srcn hm
  by_cases c5:o.limit=5
  .have d5:((o.limit:Int)=5)=True:=eq_true (by omega)
   obtain⟨u,hu5⟩:=oc.reu o hm c5
   have hix5:=jag (enc:=ja5) (size:=5) hu5 rfl
   have esrc:jke ops o=u:=by unfold jke;rw[if_pos c5,f0d,hu5];rfl
   obtain⟨hC,eC,okC,nC,xC,gC⟩:=qpm okB (b:=hi.next+1) (by omega) (some (.arr (ja5 u) 59))
   have kC:=k.keep (h1:=hC) (by omega) (fun n _ h2=>(gC n (by omega)).trans ((gB n (by omega)).trans (gA n h2)))
   have zF:=(gC _ (by omega)).trans yF
   have zX:=(gC _ (by omega)).trans yX
   have zA:=(gC _ (by omega)).trans yA
   unfold ja5 at xA eA xB eB yA eC
   rw[jaj]
   unfold jkp jux
   simp(disch:=first|omega|rfl) only[go_sem,jac,eq_true hlt,hix,ja5,eA,nA1,eB,xA,yA,d5,yX,hix5,xB,eC]
   rw[esrc] at hsn
   refine qpn (o:=o) (p:=u) (l:=l) he hlo hv hvl hc2 hsn okC (by omega) hll kC zF xC zA (by omega) (by omega) (by omega) (fun c4 x8'=>?_) (fun c4 hj x' x5' x6' x7' x8' k1 k2 k3 k4=>?_)
   .simp (disch:=first|omega|rfl) only[go_sem,jac,hs]
    have e0:opC f.values ops e o=[]:=by unfold opC;rw[esrc,if_neg c4]
    rw[e0,f05] at hfin
    exact j92 oc he hlo hvl hc2 lF lX hf d (i+1) (by omega) okC (by omega) kC zF zX hfin (fun hj x x5 x6 x7 x8 x9 x10 x11 x13 q1 q2 q3 q4=>hQ hj x x5 x6 x7 x8 x9 x10 x11 x13 q1 (by omega) (fun n hn'=>(q3 n hn').trans ((gC n (by omega)).trans ((gB n (by omega)).trans (gA n (by omega))))) q4)
   .simp (disch:=first|omega|rfl) only[go_sem,jac,hs]
    have e0:opC f.values ops e o=[C5.of (cl f.values o.value) u.n (jdh e o) (toC e o) o.value]:=by unfold opC;rw[esrc,if_pos c4]
    rw[e0] at hfin
    exact j92 oc he hlo hvl hc2 lF lX hf d (i+1) (by omega) k1 (by omega) k4 ((k3 _ lF).trans zF) ((k3 _ lX).trans zX) hfin (fun hj x x5 x6 x7 x8 x9 x10 x11 x13 q1 q2 q3 q4=>hQ hj x x5 x6 x7 x8 x9 x10 x11 x13 q1 (by omega) (fun n hn'=>(q3 n hn').trans ((k3 n hn').trans ((gC n (by omega)).trans ((gB n (by omega)).trans (gA n (by omega)))))) q4)
  .have d5:((o.limit:Int)=5)=False:=eq_false (by omega)
   have esrc:jke ops o=o:=by unfold jke;rw[if_neg c5]
   unfold ja5 at xA eA eB yA
   rw[jaj]
   unfold jkp jux
   simp(disch:=first|omega|rfl) only[go_sem,jac,eq_true hlt,hix,ja5,eA,nA1,eB,xA,yA,d5]
   refine qpn (o:=o) (p:=o) (l:=l) he hlo hv hvl hc2 hon okB (by omega) hll kB yF xB yA (by omega) (by omega) (by omega) (fun c4 x8'=>?_) (fun c4 hj x' x5' x6' x7' x8' k1 k2 k3 k4=>?_)
   .simp (disch:=first|omega|rfl) only[go_sem,jac,hs]
    have e0:opC f.values ops e o=[]:=by unfold opC;rw[esrc,if_neg c4]
    rw[e0,f05] at hfin
    exact j92 oc he hlo hvl hc2 lF lX hf d (i+1) (by omega) okB (by omega) kB yF yX hfin (fun hj x x5 x6 x7 x8 x9 x10 x11 x13 q1 q2 q3 q4=>hQ hj x x5 x6 x7 x8 x9 x10 x11 x13 q1 (by omega) (fun n hn'=>(q3 n hn').trans ((gB n (by omega)).trans (gA n (by omega)))) q4)
   .simp (disch:=first|omega|rfl) only[go_sem,jac,hs]
    have e0:opC f.values ops e o=[C5.of (cl f.values o.value) o.n (jdh e o) (toC e o) o.value]:=by unfold opC;rw[esrc,if_pos c4]
    rw[e0] at hfin
    exact j92 oc he hlo hvl hc2 lF lX hf d (i+1) (by omega) k1 (by omega) k4 ((k3 _ lF).trans yF) ((k3 _ lX).trans yX) hfin (fun hj x x5 x6 x7 x8 x9 x10 x11 x13 q1 q2 q3 q4=>hQ hj x x5 x6 x7 x8 x9 x10 x11 x13 q1 (by omega) (fun n hn'=>(q3 n hn').trans ((k3 n hn').trans ((gB n (by omega)).trans (gA n (by omega))))) q4)
structure InC (f:Fc) (x:Ms.Ins):Prop where
 ops:OpsC f x.ops
 len:x.ops.length<=6
 spl:x.spoils.length<=20
 spo:∀ r∈x.spoils,r.1<=1000/\r.2<=1000
structure FnC (f:Fc):Prop where
 nv:f.values.length<=1000
 cls:∀ c∈f.values,c<2
theorem jrv {α β:Type} (g:α->List β) (hg:∀ a,(g a).length<=n):∀ l:List α,(l.flatMap g).length<=l.length*n
 | []=>by simp
 | a::l=>by
  rw[f19,f0w,f0z,f2x,f3y]
  have:=hg a;have:=jrv g hg l;omega
theorem qld (vs:List Nat) (ops:List Ms.Opd) (e:Nat) (o:Ms.Opd):(opC vs ops e o).length<=1:=by unfold opC;split<;>simp
theorem ju2 {x:Ms.Ins} (k:InC f x) (e:Nat):(j4g f.values x e).length<=26:=by
 unfold j4g
 have:=jrv (opC f.values x.ops e) (qld f.values x.ops e) x.ops
 have:=k.len;have:=k.spl
 rw[f0w,f1c];omega
theorem qle {F:Fns} {kk:Bool} (ok:Ok h) {x:Ms.Ins} (fc:FnC f) (k:InC f x) (he:e<=100000) (hX:∀ vs h,jcp F 25 vs h=none) (hT:j5i F 25=T 25) :
 WC F 25 [.agg [jae jat f.values,jae ja0 f.blocks],.agg [si x.op,jae ja5 x.ops,jae jcr x.spoils],vi e] h (fun v h'=>∃ d,jgm kk h' d v=some (.s (jae C5.s (j4g f.values x e)))):=by
 refine jba (hX _ _) (hT.trans qpe) rfl ?_
 unfold j9v
 have hpos:=ok.pos
 have hl:=ju2 k e
 have hk1:=k.len
 have hk2:=k.spl
 have lo1:=jah (enc:=ja5) (l:=x.ops)
 have lo2:=jah (enc:=jcr) (l:=x.spoils)
 obtain⟨hA,eA,okA,nA,xA,gA⟩:=jei ok [jae jat f.values,jae ja0 f.blocks] 26
 obtain⟨hB,eB,okB,nB,xB,gB⟩:=jei okA [si x.op,jae ja5 x.ops,jae jcr x.spoils] 57
 have yA:=(gB _ (by omega)).trans xA
 rw[nA] at xB
 simp(disch:=first|omega|rfl) only[go_sem,eA,eB,nA,yA,xB,lo2]
 refine qpl (lo:=h.next+2) (fin:=x.spoils.map (j2r e)) (l:=[]) (by omega) he k.spo (by omega) (by rw[f1c];omega) x.spoils.length 0 (by omega) okB (by omega) .nil rfl (fun hj x1 x16 x19 k1 k2 k3 k4=>?_)
 have zA:=(k3 _ (by omega)).trans yA
 have zB:=(k3 _ (by omega)).trans xB
 simp(disch:=first|omega|rfl) only[go_sem,zB,lo1]
 refine j92 (lo:=h.next+2) (fin:=j4g f.values x e) (op:=x.op) k.ops he (by omega) fc.nv fc.cls (by omega) (by omega) (by omega) x.ops.length 0 (by omega) k1 (by omega) k4 zA zB rfl (fun hl x2 x5 x6 x7 x8 x9 x10 x11 x13 q1 q2 q3 q4=>?_)
 simp(disch:=first|omega|rfl) only[go_sem]
 exact⟨2,by show ob (jfp kk hl 2 x2) (fun y=>some (AV.s y))=_;rw[q4.frz];rfl⟩
def SC1 (f:FuncId):Bool:=Nat.beq f 25
noncomputable def FC1:Fns:=PX SC1 F12
theorem qs7 {A:Nat->Int}:Env Try.prog A tys FC1:=jgb qs3
theorem C5.eq_iff {x y:C5}:(x=y)↔(x.a=y.a/\x.b=y.b/\x.c=y.c/\x.d=y.d/\x.e=y.e):=by
 constructor
 .rintro rfl;exact⟨rfl,rfl,rfl,rfl,rfl⟩
 .rintro ⟨h1,h2,h3,h4,h5⟩;exact C5.inj (by unfold C5.l;rw[h1,h2,h3,h4,h5])
theorem qs8 {a b c d e a' b' c' d' e':Int}:qnr false true [false,false,false,false,false] (some (.agg [.int .i64 a,.int .i64 b,.int .i64 c,.int .i64 d,.int .i64 e])) (some (.agg [.int .i64 a',.int .i64 b',.int .i64 c',.int .i64 d',.int .i64 e']))=some (vb (decide (a=a'/\b=b'/\c=c'/\d=d'/\e=e'))):=by
 show some (AV.s (SV.bool (oif (ieq a a') (oif (ieq b b') (oif (ieq c c') (oif (ieq d d') (oif (ieq e e') true false) false) false) false) false)))=_
 rw[jbm,jbm,jbm,jbm,jbm]
 by_cases h1:a=a'<;>by_cases h2:b=b'<;>by_cases h3:c=c'<;>by_cases h4:d=d'<;>by_cases h5:e=e'<;>simp[h1,h2,h3,h4,h5,jax]
theorem rdC {l:List C5} {i:Nat} {c:C5} (h:l[i]?=some c) {ty:Nat}:rdB (some (.arr (l.flatMap C5.s) ty)) (i*5) 5=some c.s:=by
 rw[je4,jbz]
 have main:∀ (l:List C5) (i:Nat),l[i]?=some c->∃ r,(l.flatMap C5.s).drop (i*5)=c.s++r:=by
  intro l
  induction l with
  | nil=>intro i h;simp at h
  | cons a l ih =>
   intro i h
   cases i with
   | zero =>
    simp only[f1a,Option.some.injEq] at h
    subst h
    exact⟨l.flatMap C5.s,by rw[f19];rfl⟩
   | succ i =>
    obtain⟨r,e⟩:=ih i (by simpa using h)
    refine⟨r,?_⟩
    rw[f19,List.drop_append,f11 (by rw[C5.s_len];omega),C5.s_len,show(i+1)*5 - 5=i*5 by omega,e]
    rfl
 obtain⟨r,e⟩:=main l i h
 rw[e]
 refine(ja4 _).2 ⟨by rw[f0w,C5.s_len];omega,?_⟩
 rw[f13 (by rw[C5.s_len];omega),f2z (by rw[C5.s_len];omega)]
theorem qpo {F:Fns} {l:List C5} {b:Nat} (hl:l.length<=100000) (hd:l.Pairwise (fun x y=>x.lt y)) {x2:AV} {hi:Hp} (ok:Ok hi) (xb:hi.get b=some (.arr (l.flatMap C5.s) 52))
 (hQ:∀ x6 x7 x8,Q (.exit 0) (.mk [.s (.slice b 0 l.length l.length false 5),x1,x2,x3,x4,x5,x6,x7,x8,x9] hi)) :
 ∀ (d i:Nat) (_:i+1+d=l.length) {x6 x7:AV},W F juy.loop (.mk [.s (.slice b 0 l.length l.length false 5),x1,x2,x3,x4,x5,x6,x7,vi ((i+1:Nat):Int),x9] hi) Q
 | 0,i,hd',x6,x7=>by
  have e:i+1=l.length:=by omega
  rw[e,jaj]
  unfold juy
  simp(disch:=first|omega|rfl) only[go_sem,f0u]
  exact hQ _ _ _
 | d+1,i,hd',x6,x7=>by
  have hlt:((i+1:Nat):Int)<(l.length:Int):=by omega
  have hs:((i+1:Nat):Int)+1=((i+1+1:Nat):Int):=by omega
  have hs2:((i+1:Nat):Int) - 1=(i:Int):=by omega
  have hi1:i<l.length:=by omega
  have hi2:i+1<l.length:=by omega
  obtain⟨x,hx⟩:∃ u,l[i]?=some u:=⟨_,f0a hi1⟩
  obtain⟨y,hy⟩:∃ u,l[i+1]?=some u:=⟨_,f0a hi2⟩
  have r1:=rdC hx (ty:=52)
  have r2:=rdC hy (ty:=52)
  have hsl1:jsz 5 (.s (.slice b 0 l.length l.length false 5)) (vi (i:Int))=some (.s (.ptr b (i*5))):=(ja7 hi1).trans (by rw[f0y])
  have hsl2:jsz 5 (.s (.slice b 0 l.length l.length false 5)) (vi ((i+1:Nat):Int))=some (.s (.ptr b ((i+1)*5))):=(ja7 hi2).trans (by rw[f0y])
  have hne:(y.a=x.a/\y.b=x.b/\y.c=x.c/\y.d=x.d/\y.e=x.e)=False:=by
   rw[←C5.eq_iff]
   refine eq_false (fun e=>?_)
   have h3:=(f2n.1 hd) i (i+1) hi1 hi2 (by omega)
   rw[(f0t.1 hx).2,(f0t.1 hy).2,e] at h3
   exact C5.lt_irrefl _ h3
  simp only[C5.s,C5.l,f3v,List.map_nil] at r1 r2
  rw[jaj]
  unfold juy j9x
  simp(disch:=first|omega|rfl) only[go_sem,jac,eq_true hlt,hsl1,hsl2,hs2,xb,r1,r2,jfd,qs8,hne,hs]
  exact qpo hl hd ok xb hQ d (i+1) (by omega)
theorem qlf {F:Fns} (ok:Ok h) {lo:Nat} {x:SV} {l:List C5} (hl:l.length<=100000) (hd:l.Pairwise (fun x y=>x.lt y)) (k:CR lo h x l) (hX:∀ vs h,jcp F 28 vs h=none) (hT:j5i F 28=T 28) {Q:AV->Hp->Prop} (hQ:Q (.s x) h) :
 WC F 28 [.s x] h Q:=by
 refine jba (hX _ _) (hT.trans qs4) rfl ?_
 unfold qew
 have lx:=k.len
 by_cases h2:l.length<2
 .have c1:((l.length:Int)<2)=True:=eq_true (by omega)
  simp(disch:=first|omega|rfl) only[go_sem,lx,c1]
  exact hQ
 .have c1:((l.length:Int)<2)=False:=eq_false (by omega)
  rcases k with⟨rfl,rfl⟩ | ⟨_,b,rfl,h3,h4,h5⟩
  .simp at h2
  .simp (disch:=first|omega|rfl) only[go_sem,lx,c1]
   unfold j9y
   simp(disch:=first|omega|rfl) only[go_sem]
   refine qpo (b:=b) hl hd ok h5 (fun x6 x7 x8=>?_) (l.length - 1) 0 (by omega)
   simp(disch:=first|omega|rfl) only[go_sem]
   exact hQ
end Go.Proofs.Ytalbjjoppndjjaa.Ev
