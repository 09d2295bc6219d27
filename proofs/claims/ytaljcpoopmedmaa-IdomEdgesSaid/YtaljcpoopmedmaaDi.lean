/- Code of functions as the interpreter has it prepared, cut at loops. -/
import Derived.Test.YtaljcpoopmedmaaDa
namespace Go.Proofs.Ytaljcpoopmedmaa.Ev
open Go Go.RowKit
set_option linter.all false
set_option maxRecDepth 100000
def j9j:IC:=(.draw [((qA (.load 3 true (.g 17))),(.some [])),((qP (.fld 1 (.g 17))),.none),((qA (.load 1 false (.l 0))),(.some [1])),((qP (.fld 0 (.g 6))),.none),((qA (.load 1 false (.l 0))),(.some [1,3])),((qP (.ixs 1 (.l 2) (.l 0))),.none),((qA (.load 1 false (.l 0))),(.some [5])),((qP (.mv (.g 5))),.none),((qA (.call 24 [(.l 7),(.l 1),(.l 0)])),.none),((qQ 4 (.not (.l 0))),.none)])
def j9k:IC:=(.seq (.block 3 (.seq (.region [(qP (.ixs 2 (.g 7) (.g 10))),(qA (.load 2 true (.l 0))),(qB 6 (.new 51 [(.int .i64 0),.nilSlice])),(qA (.store 2 (.l 0) (.l 1)))]) (.seq j9j (.cond (.g 4) (.seq (.region [(qQ 3 (.mv (.c (.s (.bool false)))))]) .ret) .skip)))) (.region [(qP (.bin .add (.g 10) (qC 1))),(qQ 10 (.mv (.l 0)))]))
def ju7:IC:=(.seq (.region [(qQ 8 (.bin .lt (.g 10) (.g 9)))]) (.seq (.cond (.g 8) .skip (.exit 2)) j9k))
def j9l:IC:=(.seq (.block 1 (.seq (.region [(qP (.mv (.g 15))),(qP (.ixs 3 (.g 12) (.g 15))),(qA (.load 3 true (.l 0))),(qB 11 (.new 36 [.nilSlice,.nilSlice,.nilSlice])),(qQ 5 (.mv (.l 3))),(qA (.store 3 (.l 1) (.l 2)))]) (.seq (.region [(qP (.fld 2 (.g 11))),(qB 7 (.load 1 false (.l 0))),(qQ 9 (.len (.l 0))),(qQ 10 (.mv (qC 0)))]) (.block 2 (.loop ju7))))) (.region [(qP (.bin .add (.g 15) (qC 1))),(qQ 15 (.mv (.l 0)))]))
def ju8:IC:=(.seq (.region [(qQ 13 (.bin .lt (.g 15) (.g 14)))]) (.seq (.cond (.g 13) .skip (.exit 0)) j9l))
def j9m:IC:=(.seq (.seq (.region [(qP (.fld 1 (.g 19))),(qB 12 (.load 1 false (.l 0))),(qQ 14 (.len (.l 0))),(qQ 15 (.mv (qC 0)))]) (.block 0 (.loop ju8))) (.seq (.region [(qP (.fld 0 (.g 17))),(qA (.load 1 false (.l 0))),(qP (.len (.l 0))),(qP (.fld 1 (.g 19))),(qA (.load 1 false (.l 0))),(qP (.len (.l 0))),(qP (.bin .eq (.l 3) (.l 0))),(qQ 3 (.mv (.l 0)))]) .ret))
def qen:IC:=(.seq (.region [(qQ 3 (.mv (.c (.s (.bool false)))))]) (.seq (.region [(qP (.mv (.g 0))),(qP (.mv (.g 1))),(qA (.call 17 [(.l 1),(.l 0)])),(qB 20 (.new 30 [(.int .i64 0),(.int .i64 0)])),(qA (.store 2 (.l 0) (.l 1)))]) (.seq (.region [(qA (.load 2 true (.g 20))),(qP (.mv (.g 2))),(qA (.call 16 [(.l 1),(.l 0)])),(qB 19 (.new 26 [.nilSlice,.nilSlice])),(qA (.store 2 (.l 0) (.l 1)))]) (.seq (.region [(qA (.load 2 true (.g 19))),(qA (.load 2 true (.g 20))),(qA (.call 23 [(.l 1),(.l 0)])),(qP (.mv (.l 0))),(qP (.ext 0 (.l 0))),(qP (.ext 1 (.l 1))),(qB 17 (.new 53 [.nilSlice,.nilSlice,.nilSlice])),(qA (.store 3 (.l 0) (.l 2))),(qQ 18 (.mv (.l 2)))]) (.seq (.seq (.region [(qP (.mv (.g 18))),(qP (.bin .ne (.l 0) (qC 0))),(qP (.mv (.l 0))),(qR 0 false (.fld 1 (.g 17))),(qS 1 false (.load 1 false (.l 0))),(qR 2 false (.len (.l 0))),(qR 3 false (.fld 1 (.g 19))),(qS 4 false (.load 1 false (.l 0))),(qR 5 false (.len (.l 0))),(qR 6 false (.bin .ne (.l 3) (.l 0))),(qQ 16 (.pick (.l 7) (.c (.s (.bool true))) (.l 0)))]) (.cond (.g 16) (.seq (.region [(qQ 3 (.mv (.c (.s (.bool false)))))]) .ret) .skip)) j9m)))))
theorem qs4:T 11=some (.mk qen 3 18 [(.tmp 3)]):=by kernel_rfl
open Go Go.RowKit Go.Proofs.Ytaljcpoopmedmaa.Ms
attribute [local go_sem] Int.cast_ofNat_Int Int.natCast_zero Int.natCast_one decide_eq_true_eq decide_eq_false_iff_not Bool.false_eq_true and_true true_and List.cons_append List.nil_append reduceCtorEq decide_true decide_false Bool.not_true Bool.not_false Nat.add_zero Nat.zero_add Option.some.injEq Bool.true_eq_false not_true_eq_false not_false_eq_true Hp.next_push Hp.next_put Nat.add_assoc Int.reduceToNat Nat.reduceAdd Nat.reduceMul Nat.reduceEqDiff Int.reduceEq Int.reduceLT Int.reduceLE Int.reduceNeg Int.reduceAdd Int.reduceSub Int.reduceMul Int.reduceNe
attribute [local go_sem ↓] reduceIte
set_option maxHeartbeats 2000000
def ieB (s:List Bool):Bool:=(List.range (gS s).length).all (fun (k:Nat)=>((gS s).getD k []).all (fun t=>dmF (jbf s) ((jbf s).getD t 0) ((jbf s).length+1) k))
theorem qly:(shp 5).all ieB=true:=by kernel_rfl
theorem qp0 {m:Nat×Nat} {f:Fc} {s:List Bool} (o:FlOk m f s) {k:Nat} {b:Blk} (hb:f.blocks[k]?=some b) {bT:Nat} {x0 x1 x2 x3 x11 x12 x13 x14 x15 x16 x18 x19 x20:AV} {Q:Ex->St->Prop} :
 ∀ (d j:Nat) (_:j+d=b.edges.length) {hi:Hp} (_:Ok hi) (_:bT<hi.next) (_:hi.get bT=some (.arr [jah jas (jen s 0),jah jeo (jbf s),jah jas (ji5 s)] 53)) {x4 x6 x8:AV}
  (hQ:∀ hj x4 x6 x8,Ok hj->hi.next<=hj.next->(∀ n,n<hi.next->hj.get n=hi.get n)->Q (.exit 2) (.mk [x0,x1,x2,x3,x4,vi k,x6,.s (jah jem b.edges),x8,vi b.edges.length,vi b.edges.length,x11,x12,x13,x14,x15,x16,.s (.ptr bT 0),x18,x19,x20] hj)),
  W F13 ju7.loop (.mk [x0,x1,x2,x3,x4,vi k,x6,.s (jah jem b.edges),x8,vi b.edges.length,vi j,x11,x12,x13,x14,x15,x16,.s (.ptr bT 0),x18,x19,x20] hi) Q
 | 0,j,hd,hi,ok,hT,xT,x4,x6,x8,hQ=>by
  obtain rfl:j=b.edges.length:=by omega
  rw [jan]
  unfold ju7
  simp (maxSteps:=1000000) (disch:=first|omega|assumption|(simp only [List.length];done)|exact jaa|((repeat (first|apply jac|apply jad));assumption)) only [go_sem,Int.lt_irrefl]
  exact hQ hi _ _ _ ok (Nat.le_refl _) (fun _ _=>rfl)
 | d+1,j,hd,hi,ok,hT,xT,x4,x6,x8,hQ=>by
  have hlt:(j:Int)<(b.edges.length:Int):=by omega
  have hne:=(o.k.blk b (List.mem_of_getElem? hb)).2.2
  obtain ⟨e,hio⟩:∃ y,b.edges[j]?=some y:=⟨_,List.getElem?_eq_getElem (by omega)⟩
  have hix:=jak (enc:=jem) (size:=2) hio rfl
  have hs:(j:Int)+1=((j+1:Nat):Int):=by omega
  obtain ⟨g1,g2,g3,g4⟩:=o.edge hb (List.mem_of_getElem? hio)
  obtain ⟨c,hc⟩:∃ c,(jbf s)[e.block]?=some c:=⟨_,List.getElem?_eq_getElem g3⟩
  have ic:=jak (enc:=jeo) (size:=1) hc rfl
  have hdm:dmF (jbf s) c ((jbf s).length+1) k=true:=by
   have h1:=jmc qly o.hs
   unfold ieB at h1
   rw [List.all_eq_true] at h1
   have h2:=h1 k (List.mem_range.2 (by rw [jw7,←jel];exact g4))
   rw [List.getD_eq_getElem?_getD,g1,List.all_eq_true] at h2
   have h3:=h2 e.block g2
   rw [List.getD_eq_getElem?_getD,hc] at h3
   exact h3
  obtain ⟨hA,eA,okA,nA,xA,gA⟩:=jbz ok [.int .i64 0,.nilSlice] (jem e) 51
  have yT:=(gA _ hT).trans xT
  have hh:∀ n:Nat,(hA.next<=n/\n<hA.next)=False:=fun n=>eq_false (by omega)
  unfold jem at xA eA
  rw [jan]
  unfold ju7 j9k j9j
  simp (maxSteps:=1000000) (disch:=first|omega|assumption|(simp only [List.length];done)|exact jaa|((repeat (first|apply jac|apply jad));assumption)) only [go_sem,jag,eq_true hlt,hix,jem,eA,xA,yT,ic,jeo,ju6 o.hs (Int.ofNat_lt.2 g4) hdm,hh,hs]
  exact qp0 o hb d (j+1) (by omega) okA (by omega) yT (fun hj x4 x6 x8 ok' n g=>hQ hj x4 x6 x8 ok' (by omega) (fun q hq=>(g q (by omega)).trans (gA q hq)))
theorem qp1 {m:Nat×Nat} {f:Fc} {s:List Bool} (o:FlOk m f s) {bT bF:Nat} {x0 x1 x2 x3 x16 x18 x20:AV} {Q:Ex->St->Prop} :
 ∀ (d j:Nat) (_:j+d=f.blocks.length) {hi:Hp} (_:Ok hi) (_:bT<hi.next/\bF<hi.next) (_:hi.get bT=some (.arr [jah jas (jen s 0),jah jeo (jbf s),jah jas (ji5 s)] 53)) {x4 x5 x6 x7 x8 x9 x10 x11 x13:AV}
  (hQ:∀ hj x4 x5 x6 x7 x8 x9 x10 x11 x13,Ok hj->hj.get bT=hi.get bT->hj.get bF=hi.get bF->Q (.exit 0) (.mk [x0,x1,x2,x3,x4,x5,x6,x7,x8,x9,x10,x11,.s (jah ja4 f.blocks),x13,vi f.blocks.length,vi f.blocks.length,x16,.s (.ptr bT 0),x18,.s (.ptr bF 0),x20] hj)),
  W F13 ju8.loop (.mk [x0,x1,x2,x3,x4,x5,x6,x7,x8,x9,x10,x11,.s (jah ja4 f.blocks),x13,vi f.blocks.length,vi j,x16,.s (.ptr bT 0),x18,.s (.ptr bF 0),x20] hi) Q
 | 0,j,hd,hi,ok,hT,xT,x4,x5,x6,x7,x8,x9,x10,x11,x13,hQ=>by
  obtain rfl:j=f.blocks.length:=by omega
  rw [jan]
  unfold ju8
  simp (maxSteps:=1000000) (disch:=first|omega|assumption|(simp only [List.length];done)|exact jaa|((repeat (first|apply jac|apply jad));assumption)) only [go_sem,Int.lt_irrefl]
  exact hQ hi _ _ _ _ _ _ _ _ _ ok rfl rfl
 | d+1,j,hd,hi,ok,hT,xT,x4,x5,x6,x7,x8,x9,x10,x11,x13,hQ=>by
  have nb:=o.k.nb
  have hlt:(j:Int)<(f.blocks.length:Int):=by omega
  obtain ⟨b,hio⟩:∃ y,f.blocks[j]?=some y:=⟨_,List.getElem?_eq_getElem (by omega)⟩
  have hix:=jak (enc:=ja4) (size:=3) hio rfl
  have hs:(j:Int)+1=((j+1:Nat):Int):=by omega
  obtain ⟨hA,eA,okA,nA,xA,gA⟩:=jbz ok [.nilSlice,.nilSlice,.nilSlice] (ja4 b) 36
  have yT:=(gA _ hT.1).trans xT
  have l2:=jaj (enc:=jem) (l:=b.edges)
  unfold ja4 at xA eA
  rw [jan]
  unfold ju8 j9l
  simp (maxSteps:=1000000) (disch:=first|omega|assumption|(simp only [List.length];done)|exact jaa|((repeat (first|apply jac|apply jad));assumption)) only [go_sem,jag,eq_true hlt,hix,ja4,eA,xA,l2]
  refine qp0 o hio b.edges.length 0 (by omega) okA (by omega) yT (fun hj x4 x6 x8 ok' n g=>?_)
  simp (maxSteps:=1000000) (disch:=first|omega|assumption|(simp only [List.length];done)|exact jaa|((repeat (first|apply jac|apply jad));assumption)) only [go_sem,jag,hs]
  exact qp1 o d (j+1) (by omega) ok' ⟨by omega,by omega⟩ ((g _ (by omega)).trans yT) (fun hk x4 x5 x6 x7 x8 x9 x10 x11 x13 o' g' gF=>hQ hk x4 x5 x6 x7 x8 x9 x10 x11 x13 o' (g'.trans ((g _ (by omega)).trans (gA _ hT.1))) (gF.trans ((g _ (by omega)).trans (gA _ hT.2))))
theorem qp2 {h:Hp} (ok:Ok h) {a b:Int} {l:List Pc} (ha:In6 a) (hb:In6 b) (pin:∀ q∈l,Pin q) {xl:SV} (lx:LstE jbx 7 xl l):WC F13 11 [vi a,vi b,.s xl] h (fun v _=>v=.s (.bool true)):=by
 refine jba (qqj rfl rfl rfl rfl rfl rfl rfl rfl rfl rfl rfl rfl rfl) qs4 rfl ?_
 unfold qen
 obtain ⟨m1,m2⟩:=jp3 a b
 obtain ⟨m,em⟩:∃ m,jiy a b=m:=⟨_,rfl⟩
 rw [em] at m1 m2
 obtain ⟨s,o,_,_⟩:=ju3 m1 m2 l
 obtain ⟨f,ef⟩:∃ f,jdy m l=f:=⟨_,rfl⟩
 rw [ef] at o
 obtain ⟨hA,eA,okA,nA,xA,gA⟩:=jbz ok [.int .i64 0,.int .i64 0] [si m.1,si m.2] 30
 obtain ⟨hB,eB,okB,nB,xB,gB⟩:=jbz okA [.nilSlice,.nilSlice] [jah jas f.values,jah ja4 f.blocks] 26
 obtain ⟨hC,eC,okC,nC,xC,gC⟩:=jbz okB [.nilSlice,.nilSlice,.nilSlice] [jah jas (jen s 0),jah jeo (jbf s),jah jas (ji5 s)] 53
 have yA:=(gB _ (by omega)).trans xA
 have zA:=(gC _ (by omega)).trans yA
 have zB:=(gC _ (by omega)).trans xB
 have nb:hB.next=h.next+2:=by omega
 rw [nA] at eB xB zB
 rw [nb] at eC xC
 have l1:=jaj (enc:=ja4) (l:=f.blocks)
 have l2:=jaj (enc:=jeo) (l:=jbf s)
 have l3:=jaj (enc:=jas) (l:=jen s 0)
 have c1:(((jbf s).length:Int)≠(f.blocks.length:Int))=False:=by rw [jel,o.len];simp
 have c2:(((jen s 0).length:Int)=(f.blocks.length:Int))=True:=by rw [jit,o.len];simp
 simp (maxSteps:=1000000) (disch:=first|omega|assumption|(simp only [List.length];done)|exact jaa|((repeat (first|apply jac|apply jad));assumption)) only [go_sem,jut,nb,eC,zA,zB,jmt ha hb,em,j37,eA,nA,xA,jxo m1 m2 pin lx,ef,j36,eB,yA,xB,j2q o m1 m2,ju4,xC,l1,l2,c1]
 unfold j9m
 simp (maxSteps:=1000000) (disch:=first|omega|assumption|(simp only [List.length];done)|exact jaa|((repeat (first|apply jac|apply jad));assumption)) only [go_sem,zB,l1]
 refine qp1 o f.blocks.length 0 (by omega) okC ⟨by omega,by omega⟩ xC (fun hj x4 x5 x6 x7 x8 x9 x10 x11 x13 o' g gF=>?_)
 have wT:=g.trans xC
 have wF:=gF.trans zB
 simp (maxSteps:=1000000) (disch:=first|omega|assumption|(simp only [List.length];done)|exact jaa|((repeat (first|apply jac|apply jad));assumption)) only [go_sem,wT,wF,l3,l1,c2]
end Go.Proofs.Ytaljcpoopmedmaa.Ev
