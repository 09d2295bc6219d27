/- ClaimsSpoils: a claim is found; the spoils; the operands. -/
import Derived.Test.YtalbjjoppndjjaaQi
import Derived.Test.YtalbjjoppndjjaaRa
namespace Go.Proofs.Ytalbjjoppndjjaa.Ev
open Go Go.RowKit Go.Proofs.Ytalbjjoppndjjaa.Ms
attribute [local go_sem] Int.reduceToNat reduceCtorEq Nat.reduceAdd Nat.reduceMul Nat.reduceEqDiff Int.reduceEq Int.reduceLT Int.reduceLE Int.reduceNeg Int.reduceAdd Int.reduceSub Int.reduceMul Int.reduceNe
attribute [local go_sem ↓] reduceIte
set_option linter.all false
set_option maxRecDepth 100000
set_option maxHeartbeats 8000000
variable {x0 x1 x2 x3 x21 x22 x23 x24 x25 x26 x27 x28 x29 x30 x31 x32 x33 x34 x35 x36 x38:AV} {vs:List Nat} {bC bF:Nat}
section
variable {F:Fns} {st fr:List AV} {h:Hp} {Q:Ex->St->Prop}
theorem qcw {es:List Ent} {dst:Option Nat} {x:Od} {ys:List Od} {f:FuncId} {caps:List (Nat×Nat)} {vs:List AV} {l:List (IOper×Option (List Nat))} (hx:ev st fr x=some (.s (.func f caps))) (hv:evs st fr ys=some vs)
 (k:WC F f (vs++jfk caps) h (qbj F dst l st es fr Q)):WD F ((.mk dst (.a (.callv x ys)) none,none)::l) st es fr h Q:=by
 rw[jlj]
 obtain⟨n,v,h',h2,h3⟩:=k
 exact⟨n,v,h',.mk [] (some []),jaa.2 ⟨true,rfl,jaa.2 ⟨(v,h'),jaa.2 ⟨_,hx,jaa.2 ⟨vs,hv,by rw[jct];exact h2⟩⟩,rfl⟩⟩,h3⟩
end
def jho:FuncId:=13
theorem qp4 {F:Fns} {L:List C5} {a b c d e:Int} {bA lo:Nat} (hL:L.length<=100000) (lA:bA<lo) {Q:Ex->St->Prop} :
 ∀ (n i:Nat) (_:i+n=L.length) {hi:Hp} (_:Ok hi) (_:lo<=hi.next) (_:hi.get bA=some (.arr [si a,si b,si c,si d,si e] 52)) (_:∃ y∈L.drop i,y.l=[a,b,c,d,e]) {x3 x5 x7:AV}
  (hQ:∀ hj x3 x5 x7 x9,Ok hj->hi.next<=hj.next->(∀ n,n<lo->hj.get n=hi.get n)->Q .ret (.mk [x0,x1,vb true,x3,.s (.ptr bA 0),x5,.s (jae C5.s L),x7,vi L.length,x9] hj)),
  W F jz0.loop (.mk [x0,x1,x2,x3,.s (.ptr bA 0),x5,.s (jae C5.s L),x7,vi L.length,vi i] hi) Q
 | 0,i,hd,hi,ok,hn,xA,hm,x3,x5,x7,hQ=>by
  obtain⟨y,hy,_⟩:=hm
  rw[f11 (by omega)] at hy
  simp at hy
 | n+1,i,hd,hi,ok,hn,xA,hm,x3,x5,x7,hQ=>by
  have hil:i<L.length:=by omega
  have hlt:(i:Int)<(L.length:Int):=by omega
  have hs:(i:Int)+1=((i+1:Nat):Int):=by omega
  obtain⟨y,hu⟩:∃ u,L[i]?=some u:=⟨_,f0a hil⟩
  have hdr:L.drop i=y::L.drop (i+1):=by
   rw[f1d hil];congr 1;exact(f0t.1 hu).2
  have hix:=qtd hu
  obtain⟨hB,eB,okB,nB,xB,gB⟩:=jbv ok [.int .i64 0,.int .i64 0,.int .i64 0,.int .i64 0,.int .i64 0] [si y.a,si y.b,si y.c,si y.d,si y.e] 52
  have yA:=(gB _ (by omega)).trans xA
  rw[jaj]
  unfold jz0 j91
  by_cases hc:y.a=a/\y.b=b/\y.c=c/\y.d=d/\y.e=e
  .simp (disch:=first|omega|rfl) only[go_sem,jac,eq_true hlt,hix,eB,xB,yA,jfd,qs8,eq_true hc]
   exact hQ _ _ _ _ _ okB (by omega) (fun n hn'=>gB n (by omega))
  .simp (disch:=first|omega|rfl) only[go_sem,jac,eq_true hlt,hix,eB,xB,yA,jfd,qs8,eq_false hc,hs]
   refine qp4 hL lA n (i+1) (by omega) okB (by omega) yA ?_ (fun hj x3 x5 x7 x9 q1 q2 q3=>hQ hj x3 x5 x7 x9 q1 (by omega) (fun n hn'=>(q3 n hn').trans (gB n (by omega))))
   obtain⟨z,hz,hzl⟩:=hm
   rw[hdr] at hz
   rcases f0h.1 hz with rfl | hz
   .exact absurd (C5.fields hzl) hc
   .exact ⟨z,hz,hzl⟩
theorem j20 {F:Fns} {h:Hp} (ok:Ok h) {L:List C5} {a b c d e:Int} (hL:L.length<=100000) (lC:bC<h.next) (xC:h.get bC=some (.arr [jae C5.s L] 44)) (hm:∃ y∈L,y.l=[a,b,c,d,e]) (hX:∀ vs h,jcp F jho vs h=none) (hT:j5i F jho=T jho) :
 WC F jho [.agg [si a,si b,si c,si d,si e],.s (.ptr bC 0)] h (fun v h'=>v=vb true/\Ok h'/\h.next<=h'.next/\∀ n,n<h.next->h'.get n=h.get n):=by
 refine jba (hX _ _) (hT.trans qs5) rfl ?_
 unfold qex
 have hp:=ok.pos
 have ll:=jah (enc:=C5.s) (l:=L)
 obtain⟨hA,eA,okA,nA,xA,gA⟩:=jei ok [si a,si b,si c,si d,si e] 52
 have yC:=(gA _ lC).trans xC
 simp(disch:=first|omega|rfl) only[go_sem,eA,yC,ll]
 refine qp4 (lo:=h.next+1) hL (by omega) L.length 0 (by omega) okA (by omega) xA (by simpa using hm) (fun hj x3 x5 x7 x9 q1 q2 q3=>?_)
 simp(disch:=first|omega|rfl) only[go_sem]
 exact⟨q1,by omega,fun n hn=>(q3 n (by omega)).trans (gA n hn)⟩
structure CsF (F:Fns):Prop where
 X:∀ vs h,jcp F jho vs h=none
 T:j5i F jho=Ev.T jho
theorem qe3 {F:Fns} (cf:CsF F) {L:List C5} {sp:List (Nat×Nat)} {e lo:Nat} (hL:L.length<=100000) (hl:sp.length<=1000) (he:e<=90000) (hs2:∀ r∈sp,r.1<=1000/\r.2<=1000) (hm:∀ r∈sp,j2r e r∈L) (lC:bC<lo) {x4 x5 x6 x7 x8 x9 x10 x11 x12 x37:AV} {Q:Ex->St->Prop} :
 ∀ (d i:Nat) (_:i+d=sp.length) {hi:Hp} (_:Ok hi) (_:lo<=hi.next) (_:hi.get bC=some (.arr [jae C5.s L] 44)) {x13 x15 x18:AV}
  (hQ:∀ hj x13 x15 x18,Ok hj->hi.next<=hj.next->(∀ n,n<lo->hj.get n=hi.get n)->Q (.exit 4) (.mk [x0,x1,x2,x3,x4,x5,x6,x7,x8,x9,x10,x11,x12,x13,vi e,x15,.s (.func jho [(bC,0)]),.s (jae jcr sp),x18,vi sp.length,vi sp.length,x21,x22,x23,x24,x25,x26,x27,x28,x29,x30,x31,x32,x33,x34,x35,x36,x37,x38] hj)),
  W F jnj.loop (.mk [x0,x1,x2,x3,x4,x5,x6,x7,x8,x9,x10,x11,x12,x13,vi e,x15,.s (.func jho [(bC,0)]),.s (jae jcr sp),x18,vi sp.length,vi i,x21,x22,x23,x24,x25,x26,x27,x28,x29,x30,x31,x32,x33,x34,x35,x36,x37,x38] hi) Q
 | 0,i,hd,hi,ok,hn,xC,x13,x15,x18,hQ=>by
  obtain rfl:i=sp.length:=by omega
  rw[jaj]
  unfold jnj
  simp(disch:=first|omega|rfl) only[go_sem,f0u]
  exact hQ hi _ _ _ ok (f0f _) (fun _ _=>rfl)
 | d+1,i,hd,hi,ok,hn,xC,x13,x15,x18,hQ=>by
  have hil:i<sp.length:=by omega
  have hlt:(i:Int)<(sp.length:Int):=by omega
  have hs:(i:Int)+1=((i+1:Nat):Int):=by omega
  obtain⟨r,hu⟩:∃ u,sp[i]?=some u:=⟨_,f0a hil⟩
  obtain⟨r1,r2⟩:=hs2 r (f0c hu)
  have hmr:=hm r (f0c hu)
  have hix:=jag (enc:=jcr) (size:=2) hu rfl
  obtain⟨hA,eA,okA,nA,xA,gA⟩:=jbv ok [.int .i64 0,.int .i64 0] (jcr r) 48
  have yC:=(gA _ (by omega)).trans xC
  unfold jcr at xA eA
  rw[jaj]
  unfold jnj j2h
  simp(disch:=first|omega|rfl) only[go_sem,jac,eq_true hlt,hix,jcr,eA,xA]
  rw[js9 rfl]
  simp(disch:=first|omega|rfl) only[go_sem]
  refine WC.imp (j20 okA (L:=L) (a:=r.1) (b:=r.2) (c:=(e:Int)+1) (d:=(e:Int)+2) (e:=-1) hL (by omega) yC ⟨_,hmr,C5.of_l (bd5 (c:=e+1) (d:=e+2) (by omega) (by omega) (by omega) (by omega) (by omega))⟩ cf.X cf.T) ?_
  rintro _ hB ⟨rfl,okB,nB,gB⟩
  simp(disch:=first|omega|rfl) only[go_sem,jac,hs]
  exact qe3 cf hL hl he hs2 hm lC d (i+1) (by omega) okB (by omega) ((gB _ (by omega)).trans yC) (fun hj x13 x15 x18 q1 q2 q3=>hQ hj x13 x15 x18 q1 (by omega) (fun n hn'=>(q3 n hn').trans ((gB n (by omega)).trans (gA n (by omega)))))
theorem j98 {F:Fns} (cf:CsF F) {f:Fc} {L:List C5} {o:Ms.Opd} {e t u bO bS:Nat} (hL:L.length<=100000) (hv:o.value<f.values.length) (hvl:f.values.length<=1000) (hc2:∀ c∈f.values,c<2) (hon:o.n<=1000) (ht:t<=1000000) (hu:u<=1000000)
 (hm:o.limit=4->C5.of (cl f.values o.value) o.n t u o.value∈L) {x0 x1 x2 x3 x4 x5 x7 x9 x10 x11 x12 x13 x15 x17 x18 x19 x20 x21 x22 x23 x24 x25 x26 x27 x28 x29 x30 x31 x32 x33 x34 x35 x36 x38:AV} {Q:Ex->St->Prop} {hi:Hp} (ok:Ok hi) (xC:hi.get bC=some (.arr [jae C5.s L] 44)) (xF:hi.get bF=some (.arr [jae jat f.values,jae ja0 f.blocks] 26)) (xO:hi.get bO=some (.arr (ja5 o) 59)) (xS:hi.get bS=some (.arr [si t,si u] 50)) (lC:bC<hi.next)
 (hQ:∀ hj x4,Ok hj->hi.next<=hj.next->(∀ n,n<hi.next->hj.get n=hi.get n)->Q .normal (.mk [x0,x1,x2,x3,x4,x5,.s (.ptr bS 0),x7,.s (.ptr bO 0),x9,x10,x11,x12,x13,vi e,x15,.s (.func jho [(bC,0)]),x17,x18,x19,x20,x21,x22,x23,x24,x25,x26,x27,x28,x29,x30,x31,x32,x33,x34,x35,x36,.s (.ptr bF 0),x38] hj)) :
 W F juz (.mk [x0,x1,x2,x3,x4,x5,.s (.ptr bS 0),x7,.s (.ptr bO 0),x9,x10,x11,x12,x13,vi e,x15,.s (.func jho [(bC,0)]),x17,x18,x19,x20,x21,x22,x23,x24,x25,x26,x27,x28,x29,x30,x31,x32,x33,x34,x35,x36,.s (.ptr bF 0),x38] hi) Q:=by
 unfold ja5 at xO
 unfold juz j2i
 by_cases c4:o.limit=4
 .have d4:((o.limit:Int)=4)=True:=eq_true (by omega)
  obtain⟨c,hc⟩:∃ c,f.values[o.value]?=some c:=⟨_,f0a hv⟩
  have hcl:cl f.values o.value=c:=by unfold cl;rw[f0d,hc];rfl
  have hcv:=hc2 c (f0c hc)
  have hxv:=jag (enc:=jat) (size:=1) hc rfl
  have hm':=hm c4
  rw[hcl] at hm'
  simp(disch:=first|omega|rfl) only[go_sem,jac,xO,xF,xS,d4,hxv,jat]
  refine qcw rfl rfl ?_
  simp(disch:=first|omega|rfl) only[go_sem]
  refine WC.imp (j20 ok (L:=L) (a:=(c:Int)) (b:=(o.n:Int)) (c:=(t:Int)) (d:=(u:Int)) (e:=(o.value:Int)) hL lC xC ⟨_,hm',C5.of_l (bd5 (by omega) (by omega) ht hu (by omega))⟩ cf.X cf.T) ?_
  rintro _ hB ⟨rfl,okB,nB,gB⟩
  simp(disch:=first|omega|rfl) only[go_sem]
  exact hQ _ _ okB nB gB
 .have d4:((o.limit:Int)=4)=False:=eq_false (by omega)
  simp(disch:=first|omega|rfl) only[go_sem,jac,xO,d4]
  exact hQ _ _ ok (f0f _) (fun _ _=>rfl)
theorem j4k {F:Fns} (cf:CsF F) {f:Fc} {L:List C5} {ops:List Ms.Opd} {e lo:Nat} (oc:OpsC f ops) (hL:L.length<=100000) (he:e<=90000) (hvl:f.values.length<=1000) (hc2:∀ c∈f.values,c<2) (hm:∀ o∈ops,o.limit=4->C5.of (cl f.values o.value) o.n (jdh e o) (toC e o) o.value∈L) (lC:bC<lo) (lF:bF<lo) {x13 x15 x17 x18 x19 x20:AV} {Q:Ex->St->Prop} :
 ∀ (d i:Nat) (_:i+d=ops.length) {hi:Hp} (_:Ok hi) (_:lo<=hi.next) (_:hi.get bC=some (.arr [jae C5.s L] 44)) (_:hi.get bF=some (.arr [jae jat f.values,jae ja0 f.blocks] 26)) {x4 x5 x6 x7 x8 x10:AV}
  (hQ:∀ hj x4 x5 x6 x7 x8 x10,Ok hj->hi.next<=hj.next->(∀ n,n<lo->hj.get n=hi.get n)->Q (.exit 6) (.mk [x0,x1,x2,x3,x4,x5,x6,x7,x8,.s (jae ja5 ops),x10,vi ops.length,vi ops.length,x13,vi e,x15,.s (.func jho [(bC,0)]),x17,x18,x19,x20,x21,x22,x23,x24,x25,x26,x27,x28,x29,x30,x31,x32,x33,x34,x35,x36,.s (.ptr bF 0),x38] hj)),
  W F jnk.loop (.mk [x0,x1,x2,x3,x4,x5,x6,x7,x8,.s (jae ja5 ops),x10,vi ops.length,vi i,x13,vi e,x15,.s (.func jho [(bC,0)]),x17,x18,x19,x20,x21,x22,x23,x24,x25,x26,x27,x28,x29,x30,x31,x32,x33,x34,x35,x36,.s (.ptr bF 0),x38] hi) Q
 | 0,i,hd,hi,ok,hn,xC,xF,x4,x5,x6,x7,x8,x10,hQ=>by
  obtain rfl:i=ops.length:=by omega
  rw[jaj]
  unfold jnk
  simp(disch:=first|omega|rfl) only[go_sem,f0u]
  exact hQ hi _ _ _ _ _ _ ok (f0f _) (fun _ _=>rfl)
 | d+1,i,hd,hi,ok,hn,xC,xF,x4,x5,x6,x7,x8,x10,hQ=>by
  have hil:i<ops.length:=by omega
  have hlt:(i:Int)<(ops.length:Int):=by omega
  have hs:(i:Int)+1=((i+1:Nat):Int):=by omega
  obtain⟨o,hu⟩:∃ u,ops[i]?=some u:=⟨_,f0a hil⟩
  have hmem:=f0c hu
  obtain⟨hv,hon⟩:=oc.val o hmem
  have hmo:=hm o hmem
  have hlen:=oc.len
  have hix:=jag (enc:=ja5) (size:=5) hu rfl
  have w1:(e:Int)+1=((e+1:Nat):Int):=by omega
  have w2:(e:Int)+2=((e+2:Nat):Int):=by omega
  have w3:((e+2:Nat):Int) - 1=((e+1:Nat):Int):=by omega
  obtain⟨hA,eA,okA,nA,xA,gA⟩:=jbv ok [.int .i64 0,.int .i64 0,.bool false,.int .i64 0,.int .i64 0] (ja5 o) 59
  obtain⟨hC,eC,okC,nC,xS,gC⟩:=jbv okA [.int .i64 0,.int .i64 0] [si (e:Int),si ((e+2:Nat):Int)] 50
  have yO:=(gC _ (by omega)).trans xA
  have zC:=(gC _ (by omega)).trans ((gA _ (by omega)).trans xC)
  have zF:=(gC _ (by omega)).trans ((gA _ (by omega)).trans xF)
  rw[nA] at eC xS
  have xhC:=xS
  have xA0:=xA
  have eA0:=eA
  have yO0:=yO
  unfold ja5 at xA0 eA0 yO0
  rw[jaj]
  unfold jnk j2j
  by_cases ek1:o.kind=1
  .have k1:((o.kind:Int)=1)=True:=eq_true (by omega)
   have k2:((o.kind:Int)=2)=False:=eq_false (by omega)
   by_cases el:o.late=true
   .have q3:jdh e o=e:=by unfold jdh;rw[if_neg (by omega)]
    have q4:toC e o=e+2:=by unfold toC;rw[if_neg (by simp[el])]
    rw[el] at xA0 eA0 yO0
    simp(disch:=first|omega|rfl) only[go_sem,jac,eq_true hlt,hix,ja5,el,eA0,nA,w2,eC,yO0,k1]
    unfold jkq
    simp(disch:=first|omega|rfl) only[go_sem,jac,yO0,k2]
    refine j98 cf (o:=o) (t:=e) (u:=e+2) hL hv hvl hc2 hon (by omega) (by omega) (fun h4=>by have:=hmo h4;rwa [q3,q4] at this) okC ((rfl).trans zC) ((rfl).trans zF) ((rfl).trans yO) xhC (by omega) (fun hj y4 k1 k2 k3=>?_)
    simp(disch:=first|omega|rfl) only[go_sem,jac,hs]
    exact j4k cf oc hL he hvl hc2 hm lC lF d (i+1) (by omega) k1 (by omega) ((k3 _ (by omega)).trans ((rfl).trans zC)) ((k3 _ (by omega)).trans ((rfl).trans zF)) (fun hj x4 x5 x6 x7 x8 x10 r1 r2 r3=>hQ hj x4 x5 x6 x7 x8 x10 r1 (by omega) (fun n hn'=>(r3 n hn').trans ((k3 n (by omega)).trans (((gC n (by omega)).trans (gA n (by omega)))))))
   .have ef:o.late=false:=by cases h:o.late<;>first | rfl | exact absurd h el
    have q3:jdh e o=e:=by unfold jdh;rw[if_neg (by omega)]
    have q4:toC e o=e+1:=by unfold toC;rw[if_pos ⟨ek1,ef⟩]
    rw[ef] at xA0 eA0 yO0
    obtain⟨hD,eD,okhD,nD,xhD,gD⟩:=qpm okC (b:=hi.next+1) (by omega) (some (.arr [si (e:Int),si ((e+1:Nat):Int)] 50))
    have yO1:=(gD _ (by omega)).trans yO0
    simp(disch:=first|omega|rfl) only[go_sem,jac,eq_true hlt,hix,ja5,ef,eA0,nA,w2,eC,yO0,k1,xS,w3,eD]
    unfold jkq
    simp(disch:=first|omega|rfl) only[go_sem,jac,yO1,k2]
    refine j98 cf (o:=o) (t:=e) (u:=e+1) hL hv hvl hc2 hon (by omega) (by omega) (fun h4=>by have:=hmo h4;rwa [q3,q4] at this) okhD ((gD _ (by omega)).trans zC) ((gD _ (by omega)).trans zF) ((gD _ (by omega)).trans yO) xhD (by omega) (fun hj y4 k1 k2 k3=>?_)
    simp(disch:=first|omega|rfl) only[go_sem,jac,hs]
    exact j4k cf oc hL he hvl hc2 hm lC lF d (i+1) (by omega) k1 (by omega) ((k3 _ (by omega)).trans ((gD _ (by omega)).trans zC)) ((k3 _ (by omega)).trans ((gD _ (by omega)).trans zF)) (fun hj x4 x5 x6 x7 x8 x10 r1 r2 r3=>hQ hj x4 x5 x6 x7 x8 x10 r1 (by omega) (fun n hn'=>(r3 n hn').trans ((k3 n (by omega)).trans ((gD n (by omega)).trans ((gC n (by omega)).trans (gA n (by omega)))))))
  .have k1:((o.kind:Int)=1)=False:=eq_false (by omega)
   by_cases hk2:o.kind=2/\o.late=true
   .obtain ⟨ek2,el⟩:=hk2
    have k2:((o.kind:Int)=2)=True:=eq_true (by omega)
    have q3:jdh e o=e+1:=by unfold jdh;rw[if_pos ⟨ek2,el⟩]
    have q4:toC e o=e+2:=by unfold toC;rw[if_neg (by omega)]
    rw[el] at xA0 eA0 yO0
    obtain⟨hD,eD,okhD,nD,xhD,gD⟩:=qpm okC (b:=hi.next+1) (by omega) (some (.arr [si ((e+1:Nat):Int),si ((e+2:Nat):Int)] 50))
    simp(disch:=first|omega|rfl) only[go_sem,jac,eq_true hlt,hix,ja5,el,eA0,nA,w2,eC,yO0,k1]
    unfold jkq
    simp(disch:=first|omega|rfl) only[go_sem,jac,yO0,k2,xS,w1,eD]
    refine j98 cf (o:=o) (t:=e+1) (u:=e+2) hL hv hvl hc2 hon (by omega) (by omega) (fun h4=>by have:=hmo h4;rwa [q3,q4] at this) okhD ((gD _ (by omega)).trans zC) ((gD _ (by omega)).trans zF) ((gD _ (by omega)).trans yO) xhD (by omega) (fun hj y4 k1 k2 k3=>?_)
    simp(disch:=first|omega|rfl) only[go_sem,jac,hs]
    exact j4k cf oc hL he hvl hc2 hm lC lF d (i+1) (by omega) k1 (by omega) ((k3 _ (by omega)).trans ((gD _ (by omega)).trans zC)) ((k3 _ (by omega)).trans ((gD _ (by omega)).trans zF)) (fun hj x4 x5 x6 x7 x8 x10 r1 r2 r3=>hQ hj x4 x5 x6 x7 x8 x10 r1 (by omega) (fun n hn'=>(r3 n hn').trans ((k3 n (by omega)).trans ((gD n (by omega)).trans ((gC n (by omega)).trans (gA n (by omega)))))))
   .have q3:jdh e o=e:=by unfold jdh;rw[if_neg hk2]
    have q4:toC e o=e+2:=by unfold toC;rw[if_neg (by omega)]
    simp(disch:=first|omega|rfl) only[go_sem,jac,eq_true hlt,hix,ja5,eA0,nA,w2,eC,yO0,k1]
    unfold jkq
    by_cases ek2:o.kind=2
    .have k2:((o.kind:Int)=2)=True:=eq_true (by omega)
     have el:o.late=false:=by cases h:o.late<;>first | rfl | exact absurd ⟨ek2,h⟩ hk2
     have yO1:=yO0
     rw[el] at yO1
     simp(disch:=first|omega|rfl) only[go_sem,jac,yO1,k2]
     refine j98 cf (o:=o) (t:=e) (u:=e+2) hL hv hvl hc2 hon (by omega) (by omega) (fun h4=>by have:=hmo h4;rwa [q3,q4] at this) okC zC zF yO xhC (by omega) (fun hj y4 k1 k2 k3=>?_)
     simp(disch:=first|omega|rfl) only[go_sem,jac,hs]
     exact j4k cf oc hL he hvl hc2 hm lC lF d (i+1) (by omega) k1 (by omega) ((k3 _ (by omega)).trans zC) ((k3 _ (by omega)).trans zF) (fun hj x4 x5 x6 x7 x8 x10 r1 r2 r3=>hQ hj x4 x5 x6 x7 x8 x10 r1 (by omega) (fun n hn'=>(r3 n hn').trans ((k3 n (by omega)).trans ((gC n (by omega)).trans (gA n (by omega))))))
    .have k2:((o.kind:Int)=2)=False:=eq_false (by omega)
     simp(disch:=first|omega|rfl) only[go_sem,jac,yO0,k2]
     refine j98 cf (o:=o) (t:=e) (u:=e+2) hL hv hvl hc2 hon (by omega) (by omega) (fun h4=>by have:=hmo h4;rwa [q3,q4] at this) okC zC zF yO xhC (by omega) (fun hj y4 k1 k2 k3=>?_)
     simp(disch:=first|omega|rfl) only[go_sem,jac,hs]
     exact j4k cf oc hL he hvl hc2 hm lC lF d (i+1) (by omega) k1 (by omega) ((k3 _ (by omega)).trans zC) ((k3 _ (by omega)).trans zF) (fun hj x4 x5 x6 x7 x8 x10 r1 r2 r3=>hQ hj x4 x5 x6 x7 x8 x10 r1 (by omega) (fun n hn'=>(r3 n hn').trans ((k3 n (by omega)).trans ((gC n (by omega)).trans (gA n (by omega))))))
theorem j21 {c:C5}:∀ {l:List Ms.Ins} {e i:Nat} {x:Ms.Ins},l[i]?=some x->c∈j4g vs x (e+2*i)->c∈ju3 vs e l
 | [],e,i,x,h,_=>by simp at h
 | y::r,e,0,x,h,hc=>by
  simp only[f1a,Option.some.injEq] at h
  subst h
  rw[ju3];exact f08 _ hc
 | y::r,e,i+1,x,h,hc=>by
  rw[ju3]
  refine f00 _ (j21 (e:=e+2) (i:=i) (by simpa using h) ?_)
  rwa [show e+2+2*i=e+2*(i+1) by omega]
theorem j22 {bs:List Ms.Blk} {c:C5} {k st':Nat} {b:Ms.Blk} (hb:bs[k]?=some b) (hst:(jau bs)[k]?=some st') (hc:c∈ju3 vs (st'+1) b.instrs) :
 ∀ (d i:Nat) (_:i+d=bs.length) {st:Nat} (_:(jau bs)[i]?=some st) (_:i<=k),c∈jxv vs st (bs.drop i)
 | 0,i,hd,st,h,hk=>by
  have:=(f0t.1 hb).1;omega
 | d+1,i,hd,st,h,hk=>by
  have hil:i<bs.length:=by omega
  obtain⟨b0,hu⟩:∃ u,bs[i]?=some u:=⟨_,f0a hil⟩
  have hdr:bs.drop i=b0::bs.drop (i+1):=by
   rw[f1d hil];congr 1;exact(f0t.1 hu).2
  rw[hdr,jxv]
  by_cases e:i=k
  .subst e
   rw[hb] at hu;cases hu
   rw[hst] at h;cases h
   exact f08 _ hc
  .obtain ⟨n0,h1,h2⟩:=jfa hu
   rw[h] at h1;cases h1
   exact f00 _ (j22 hb hst hc d (i+1) (by omega) h2 (by omega))
theorem jry {f:Fc} {k st i:Nat} {b:Ms.Blk} {x:Ms.Ins} {c:C5} (hb:f.blocks[k]?=some b) (hst:(jau f.blocks)[k]?=some st) (hx:b.instrs[i]?=some x) (hc:c∈j4g f.values x (st+1+2*i)):c∈srt (jb8 f) :=
 (jks _).mem_iff.2 (j22 hb hst (j21 hx hc) f.blocks.length 0 (by omega) (jiz _) (by omega))
def qlr (f:Fc) (L:List C5) (x:Ms.Ins) (e:Nat):Prop:=(∀ r∈x.spoils,j2r e r∈L)/\∀ o∈x.ops,o.limit=4->C5.of (cl f.values o.value) o.n (jdh e o) (toC e o) o.value∈L
theorem qcx {f:Fc} {k st i:Nat} {b:Ms.Blk} {x:Ms.Ins} (hb:f.blocks[k]?=some b) (hst:(jau f.blocks)[k]?=some st) (hx:b.instrs[i]?=some x):qlr f (srt (jb8 f)) x (st+1+2*i):=by
 refine⟨fun r hr=>jry hb hst hx (f08 _ (f1q.2 ⟨r,hr,rfl⟩)),fun o ho h4=>jry hb hst hx (f00 _ (List.mem_flatMap.2 ⟨o,ho,?_⟩))⟩
 have:jke x.ops o=o:=by unfold jke;rw[if_neg (by omega)]
 unfold opC
 rw[this,if_pos h4]
 simp
theorem qp5 {F:Fns} (cf:CsF F) {f:Fc} (bc:BlC f) {L:List C5} (hL:L.length<=100000) {ins:List Ms.Ins} {k st lo:Nat} (hst:(jau f.blocks)[k]?=some st) (hst2:st<=10000) (hl:ins.length<=40) (hin:∀ x∈ins,InC f x) (hfd:∀ (i:Nat) (x:Ms.Ins),ins[i]?=some x->qlr f L x (st+1+2*i)) (lC:bC<lo) (lF:bF<lo) {Q:Ex->St->Prop} :
 ∀ (d i:Nat) (_:i+d=ins.length) {hi:Hp} (_:Ok hi) (_:lo<=hi.next) (_:hi.get bC=some (.arr [jae C5.s L] 44)) (_:hi.get bF=some (.arr [jae jat f.values,jae ja0 f.blocks] 26)) {x4 x5 x6 x7 x8 x9 x10 x11 x12 x13 x14 x15 x17 x18 x19 x20 x21 x22 x25:AV}
  (hQ:∀ hj x4 x5 x6 x7 x8 x9 x10 x11 x12 x13 x14 x15 x17 x18 x19 x20 x21 x22 x25,Ok hj->hi.next<=hj.next->(∀ n,n<lo->hj.get n=hi.get n)->Q (.exit 2) (.mk [x0,x1,x2,x3,x4,x5,x6,x7,x8,x9,x10,x11,x12,x13,x14,x15,.s (.func jho [(bC,0)]),x17,x18,x19,x20,x21,x22,vi k,.s (jae jdo ins),x25,vi ins.length,vi ins.length,x28,x29,x30,x31,x32,x33,x34,.s (jae jat (jau f.blocks)),x36,.s (.ptr bF 0),x38] hj)),
  W F jnl.loop (.mk [x0,x1,x2,x3,x4,x5,x6,x7,x8,x9,x10,x11,x12,x13,x14,x15,.s (.func jho [(bC,0)]),x17,x18,x19,x20,x21,x22,vi k,.s (jae jdo ins),x25,vi ins.length,vi i,x28,x29,x30,x31,x32,x33,x34,.s (jae jat (jau f.blocks)),x36,.s (.ptr bF 0),x38] hi) Q
 | 0,i,hd,hi,ok,hn,xC,xF,x4,x5,x6,x7,x8,x9,x10,x11,x12,x13,x14,x15,x17,x18,x19,x20,x21,x22,x25,hQ=>by
  obtain rfl:i=ins.length:=by omega
  rw[jaj]
  unfold jnl
  simp(disch:=first|omega|rfl) only[go_sem,f0u]
  exact hQ hi _ _ _ _ _ _ _ _ _ _ _ _ _ _ _ _ _ _ _ ok (f0f _) (fun _ _=>rfl)
 | d+1,i,hd,hi,ok,hn,xC,xF,x4,x5,x6,x7,x8,x9,x10,x11,x12,x13,x14,x15,x17,x18,x19,x20,x21,x22,x25,hQ=>by
  have hil:i<ins.length:=by omega
  have hlt:(i:Int)<(ins.length:Int):=by omega
  have hs:(i:Int)+1=((i+1:Nat):Int):=by omega
  obtain⟨ee,hee⟩:∃ ee,st+1+2*i=ee:=⟨_,rfl⟩
  have hs3:(st:Int)+1+2*(i:Int)=(ee:Int):=by omega
  obtain⟨y,hu⟩:∃ u,ins[i]?=some u:=⟨_,f0a hil⟩
  have hk:=hin y (f0c hu)
  obtain⟨fd1,fd2⟩:=hfd i y hu
  rw[hee] at fd1 fd2
  have hk1:=hk.len
  have hk2:=hk.spl
  have hix:=jag (enc:=jdo) (size:=3) hu rfl
  have hxs:=jag (enc:=jat) (size:=1) hst rfl
  have lo1:=jah (enc:=ja5) (l:=y.ops)
  have lo2:=jah (enc:=jcr) (l:=y.spoils)
  obtain⟨hA,eA,okA,nA,xA,gA⟩:=jbv ok [.int .i64 0,.nilSlice,.nilSlice] (jdo y) 57
  have yC:=(gA _ (by omega)).trans xC
  have yF:=(gA _ (by omega)).trans xF
  unfold jdo at xA eA
  rw[jaj]
  unfold jnl j2k
  simp(disch:=first|omega|rfl) only[go_sem,jac,eq_true hlt,hix,jdo,eA,hxs,jat,hs3,xA,lo2]
  refine qe3 cf (lo:=hi.next+1) hL (by omega) (by omega) hk.spo fd1 (by omega) y.spoils.length 0 (by omega) okA (by omega) yC (fun hj x13 x15 x18 k1 k2 k3=>?_)
  have zA:=(k3 _ (by omega)).trans xA
  simp(disch:=first|omega|rfl) only[go_sem,zA,lo1]
  refine j4k cf (lo:=lo) hk.ops hL (by omega) bc.fc.nv bc.fc.cls fd2 lC lF y.ops.length 0 (by omega) k1 (by omega) ((k3 _ (by omega)).trans yC) ((k3 _ (by omega)).trans yF) (fun hq x4 x5 x6 x7 x8 x10 r1 r2 r3=>?_)
  simp(disch:=first|omega|rfl) only[go_sem,jac,hs]
  refine qp5 cf bc hL hst hst2 hl hin hfd lC lF d (i+1) (by omega) r1 (by omega) ((r3 _ (by omega)).trans ((k3 _ (by omega)).trans yC)) ((r3 _ (by omega)).trans ((k3 _ (by omega)).trans yF)) ?_
  intro hm x4 x5 x6 x7 x8 x9 x10 x11 x12 x13 x14 x15 x17 x18 x19 x20 x21 x22 x25 q1 q2 q3
  exact hQ hm x4 x5 x6 x7 x8 x9 x10 x11 x12 x13 x14 x15 x17 x18 x19 x20 x21 x22 x25 q1 (by omega) (fun n hn'=>(q3 n hn').trans ((r3 n hn').trans ((k3 n (by omega)).trans (gA n (by omega)))))
theorem qp6 {F:Fns} (cf:CsF F) {f:Fc} (bc:BlC f) {L:List C5} (hL:L.length<=100000) {lo:Nat} (hfd:∀ (k i st:Nat) (b:Ms.Blk) (x:Ms.Ins),f.blocks[k]?=some b->(jau f.blocks)[k]?=some st->b.instrs[i]?=some x->qlr f L x (st+1+2*i)) (lC:bC<lo) (lF:bF<lo) {Q:Ex->St->Prop} :
 ∀ (d i:Nat) (_:i+d=f.blocks.length) {hi:Hp} (_:Ok hi) (_:lo<=hi.next) (_:hi.get bC=some (.arr [jae C5.s L] 44)) (_:hi.get bF=some (.arr [jae jat f.values,jae ja0 f.blocks] 26)) {x4 x5 x6 x7 x8 x9 x10 x11 x12 x13 x14 x15 x17 x18 x19 x20 x21 x22 x23 x24 x25 x26 x27 x28 x30:AV}
  (hQ:∀ hj x4 x5 x6 x7 x8 x9 x10 x11 x12 x13 x14 x15 x17 x18 x19 x20 x21 x22 x23 x24 x25 x26 x27 x28 x30,Q (.exit 0) (.mk [x0,x1,x2,x3,x4,x5,x6,x7,x8,x9,x10,x11,x12,x13,x14,x15,.s (.func jho [(bC,0)]),x17,x18,x19,x20,x21,x22,x23,x24,x25,x26,x27,x28,.s (jae ja0 f.blocks),x30,vi f.blocks.length,vi f.blocks.length,x33,x34,.s (jae jat (jau f.blocks)),x36,.s (.ptr bF 0),x38] hj)),
  W F jnm.loop (.mk [x0,x1,x2,x3,x4,x5,x6,x7,x8,x9,x10,x11,x12,x13,x14,x15,.s (.func jho [(bC,0)]),x17,x18,x19,x20,x21,x22,x23,x24,x25,x26,x27,x28,.s (jae ja0 f.blocks),x30,vi f.blocks.length,vi i,x33,x34,.s (jae jat (jau f.blocks)),x36,.s (.ptr bF 0),x38] hi) Q
 | 0,i,hd,hi,ok,hn,xC,xF,x4,x5,x6,x7,x8,x9,x10,x11,x12,x13,x14,x15,x17,x18,x19,x20,x21,x22,x23,x24,x25,x26,x27,x28,x30,hQ=>by
  obtain rfl:i=f.blocks.length:=by omega
  rw[jaj]
  unfold jnm
  simp(disch:=first|omega|rfl) only[go_sem,f0u]
  exact hQ hi _ _ _ _ _ _ _ _ _ _ _ _ _ _ _ _ _ _ _ _ _ _ _ _ _
 | d+1,i,hd,hi,ok,hn,xC,xF,x4,x5,x6,x7,x8,x9,x10,x11,x12,x13,x14,x15,x17,x18,x19,x20,x21,x22,x23,x24,x25,x26,x27,x28,x30,hQ=>by
  have hil:i<f.blocks.length:=by omega
  have hlt:(i:Int)<(f.blocks.length:Int):=by omega
  have hs:(i:Int)+1=((i+1:Nat):Int):=by omega
  have nb:=bc.nb
  obtain⟨b,hu⟩:∃ u,f.blocks[i]?=some u:=⟨_,f0a hil⟩
  have hbm:=f0c hu
  obtain⟨st,hst,_⟩:=jfa hu
  have hst2:=ju4 bc.ni hst (by omega)
  have hix:=jag (enc:=ja0) (size:=3) hu rfl
  have l2:=jah (enc:=jdo) (l:=b.instrs)
  obtain⟨hA,eA,okA,nA,xA,gA⟩:=jbv ok [.nilSlice,.nilSlice,.nilSlice] (ja0 b) 36
  have yC:=(gA _ (by omega)).trans xC
  have yF:=(gA _ (by omega)).trans xF
  unfold ja0 at xA eA
  rw[jaj]
  unfold jnm j2l
  simp(disch:=first|omega|rfl) only[go_sem,jac,eq_true hlt,hix,ja0,eA,xA,l2]
  refine qp5 cf bc hL (lo:=lo) (ins:=b.instrs) (k:=i) hst (by omega) (bc.ni b hbm) (bc.ins b hbm) (fun j x hx=>hfd i j st b x hu hst hx) lC lF b.instrs.length 0 (by omega) okA (by omega) yC yF ?_
  intro hj x4 x5 x6 x7 x8 x9 x10 x11 x12 x13 x14 x15 x17 x18 x19 x20 x21 x22 x25 q1 q2 q3
  simp(disch:=first|omega|rfl) only[go_sem,jac,hs]
  exact qp6 cf bc hL hfd lC lF d (i+1) (by omega) q1 (by omega) ((q3 _ lC).trans yC) ((q3 _ lF).trans yF) hQ
theorem qcy {bs:List Ms.Blk} (h:H0 bs):∃ st1,(jau bs)[1]?=some st1/\4<=st1:=by
 obtain⟨b,hb,hne⟩:=h
 obtain⟨n,h1,h2⟩:=jfa hb
 have:=f1m.2 hne
 exact⟨_,h2,by omega⟩
theorem qve:CsF FC3:=⟨fun vs h=>(j4i rfl rfl rfl).trans (qlz rfl rfl rfl rfl rfl rfl rfl rfl rfl rfl rfl rfl),rfl⟩
theorem qp7 {h:Hp} (ok:Ok h) {a b:Int} {l:List Pc} (ha:In6 a) (hb:In6 b) (pin:∀ q∈l,Pin q) {xl:SV} (lx:LstE jb6 7 xl l):WC FC3 5 [vi a,vi b,.s xl] h (fun v _=>v=.s (.bool true)):=by
 refine jba ((j4i rfl rfl rfl).trans (qlz rfl rfl rfl rfl rfl rfl rfl rfl rfl rfl rfl rfl)) qpg rfl ?_
 unfold j9z
 obtain⟨m1,m2⟩:=j7r a b
 obtain⟨m,em⟩:∃ m,jqp a b=m:=⟨_,rfl⟩
 rw[em] at m1 m2
 obtain⟨s,o,_,_⟩:=j9s m1 m2 l
 have hne:=qcy (j4j m l)
 obtain⟨f,ef⟩:∃ f,jeh m l=f:=⟨_,rfl⟩
 rw[ef] at o hne
 have bc:=j2v m1 m2 o.k
 have hcl:=ji5 bc
 have hp:=ok.pos
 have nb:=bc.nb
 have hni:=bc.ni
 obtain⟨hA,eA,okA,nA,xA,gA⟩:=jbv ok [.int .i64 0,.int .i64 0] [si m.1,si m.2] 30
 obtain⟨hB,eB,okB,nB,xB,gB⟩:=jbv okA [.nilSlice,.nilSlice] [jae jat f.values,jae ja0 f.blocks] 26
 obtain⟨hC,eC,okC,nC,xC,gC⟩:=jbv okB [.nilSlice] [jae C5.s (srt (jb8 f))] 44
 have nb2:hB.next=h.next+2:=by omega
 have yA:=(gB _ (by omega)).trans xA
 have zA:=(gC _ (by omega)).trans yA
 rw[nA] at eB xB
 rw[nb2] at eC xC
 have zB:=(gC _ (by omega)).trans xB
 have l1:=jah (enc:=ja0) (l:=f.blocks)
 have l2:=jah (enc:=jat) (l:=jau f.blocks)
 rw[jey] at l2
 obtain⟨st1,hst1,hst4⟩:=hne
 have i1:jsz 1 (.s (jae jat (jau f.blocks))) (vi 1)=some (.s (.cp (jat st1))):=jag (enc:=jat) (size:=1) hst1 rfl
 have c0:((0:Int)≠0)=False:=by simp
 have c1:(((f.blocks.length+1:Nat):Int)≠(f.blocks.length:Int)+1)=False:=eq_false (by omega)
 have c2:((st1:Int)<4)=False:=eq_false (by omega)
 simp(disch:=first|omega|rfl) only[go_sem,jac,jmm ha hb,em,qly,eA,nA,xA,jxq m1 m2 pin lx,ef,jzj,eB,yA,xB,j2u o m1 m2 bc (jfv m1 m2 o.k),ql0,nb2,eC,zB,jz3 (f:=f) (by omega) (fun b hb=>by have:=hni b hb;omega),c0,l1,l2,c1,i1,jat,c2]
 unfold j2m
 simp(disch:=first|omega|rfl) only[go_sem,zB,l1]
 refine qp6 qve bc (L:=srt (jb8 f)) (lo:=h.next+3) (by rw[ji3];omega) (fun k i st b x h1 h2 h3=>qcx h1 h2 h3) (by omega) (by omega) f.blocks.length 0 (by omega) okC (by omega) xC zB ?_
 intros
 simp(disch:=first|omega|rfl) only[go_sem]
end Go.Proofs.Ytalbjjoppndjjaa.Ev
