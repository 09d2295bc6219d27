/- Code of functions as the interpreter has it prepared, cut at loops. -/
import Derived.Test.YtaljcpoopmedmaaDa
namespace Go.Proofs.Ytaljcpoopmedmaa.Ev
open Go Go.RowKit
set_option linter.all false
set_option maxRecDepth 100000
def j9n:IC:=(.draw [((qP (.mv (.g 5))),.none),((qP (.mv (.l 0))),.none),((qR 0 true (.fld 2 (.g 18))),.none),((qS 1 true (.load 1 false (.l 0))),(.some [])),((qR 2 true (.fld 0 (.g 7))),.none),((qS 3 true (.load 1 false (.l 0))),(.some [1])),((qR 4 true (.ixs 1 (.l 2) (.l 0))),.none),((qS 5 true (.load 1 false (.l 0))),(.some [])),((qR 6 true (.bin .lt (.l 0) (qC 1))),.none),((qP (.pick (.l 7) (.l 0) (.c (.s (.bool false))))),.none),((qP (.mv (.l 0))),.none),((qR 0 false (.mv (.g 5))),.none),((qR 1 false (.mv (.l 0))),.none),((qR 0 true (.fld 2 (.g 18))),.none),((qS 1 true (.load 1 false (.l 0))),(.some [])),((qR 2 true (.mv (.g 6))),.none),((qR 3 true (.ixs 1 (.l 1) (.l 0))),.none),((qS 4 true (.load 1 false (.l 0))),(.some [])),((qR 5 true (.fld 2 (.g 18))),.none),((qS 6 true (.load 1 false (.l 0))),(.some [1,4])),((qR 7 true (.fld 0 (.g 7))),.none),((qS 8 true (.load 1 false (.l 0))),(.some [1,3,6])),((qR 9 true (.ixs 1 (.l 2) (.l 0))),.none),((qS 10 true (.load 1 false (.l 0))),(.some [5,8])),((qR 11 true (.bin .lt (.l 6) (.l 0))),.none),((qR 14 false (.pick (.l 12) (.l 0) (.c (.s (.bool false))))),.none),((qP (.pick (.l 15) (.c (.s (.bool true))) (.l 0))),.none),((qP (.mv (.l 0))),.none),((qR 0 false (.mv (.g 5))),.none),((qR 1 false (.not (.l 0))),.none),((qR 2 false (.mv (.l 0))),.none),((qR 0 true (.fld 2 (.g 18))),.none),((qS 1 true (.load 1 false (.l 0))),(.some [])),((qR 2 true (.fld 0 (.g 7))),.none),((qS 3 true (.load 1 false (.l 0))),(.some [1])),((qR 4 true (.ixs 1 (.l 2) (.l 0))),.none),((qS 5 true (.load 1 false (.l 0))),(.some [])),((qR 6 true (.fld 2 (.g 18))),.none),((qS 7 true (.load 1 false (.l 0))),(.some [1,3,5])),((qR 8 true (.mv (.g 6))),.none),((qR 9 true (.ixs 1 (.l 1) (.l 0))),.none),((qS 10 true (.load 1 false (.l 0))),(.some [4,6,8])),((qR 11 true (.bin .add (.l 0) (qC 1))),.none),((qR 12 true (.bin .gt (.l 6) (.l 0))),.none),((qR 16 false (.pick (.l 13) (.l 0) (.c (.s (.bool false))))),.none),((qQ 4 (.pick (.l 17) (.c (.s (.bool true))) (.l 0))),.none)])
def j9o:IC:=(.seq (.block 3 (.seq (.region [(qP (.ixs 2 (.g 8) (.g 11))),(qA (.load 2 true (.l 0))),(qB 7 (.new 51 [(.int .i64 0),.nilSlice])),(qA (.store 2 (.l 0) (.l 1)))]) (.seq (.region [(qA (.load 3 true (.g 18))),(qP (.fld 0 (.g 7))),(qA (.load 1 false (.l 0))),(qP (.mv (.g 6))),(qA (.call 24 [(.l 3),(.l 1),(.l 0)])),(qQ 5 (.mv (.l 0)))]) (.seq j9n (.cond (.g 4) (.seq (.region [(qQ 3 (.mv (.c (.s (.bool false)))))]) .ret) .skip))))) (.region [(qP (.bin .add (.g 11) (qC 1))),(qQ 11 (.mv (.l 0)))]))
def jqf:IC:=(.seq (.region [(qQ 9 (.bin .lt (.g 11) (.g 10)))]) (.seq (.cond (.g 9) .skip (.exit 2)) j9o))
def j9p:IC:=(.seq (.block 1 (.seq (.region [(qP (.mv (.g 16))),(qP (.ixs 3 (.g 13) (.g 16))),(qA (.load 3 true (.l 0))),(qB 12 (.new 36 [.nilSlice,.nilSlice,.nilSlice])),(qQ 6 (.mv (.l 3))),(qA (.store 3 (.l 1) (.l 2)))]) (.seq (.region [(qP (.fld 2 (.g 12))),(qB 8 (.load 1 false (.l 0))),(qQ 10 (.len (.l 0))),(qQ 11 (.mv (qC 0)))]) (.block 2 (.loop jqf))))) (.region [(qP (.bin .add (.g 16) (qC 1))),(qQ 16 (.mv (.l 0)))]))
def ju9:IC:=(.seq (.region [(qQ 14 (.bin .lt (.g 16) (.g 15)))]) (.seq (.cond (.g 14) .skip (.exit 0)) j9p))
def j9q:IC:=(.seq (.seq (.region [(qP (.fld 1 (.g 20))),(qB 13 (.load 1 false (.l 0))),(qQ 15 (.len (.l 0))),(qQ 16 (.mv (qC 0)))]) (.block 0 (.loop ju9))) (.seq (.region [(qQ 3 (.mv (.c (.s (.bool true)))))]) .ret))
def qeo:IC:=(.seq (.region [(qQ 3 (.mv (.c (.s (.bool false)))))]) (.seq (.region [(qP (.mv (.g 0))),(qP (.mv (.g 1))),(qA (.call 17 [(.l 1),(.l 0)])),(qB 21 (.new 30 [(.int .i64 0),(.int .i64 0)])),(qA (.store 2 (.l 0) (.l 1)))]) (.seq (.region [(qA (.load 2 true (.g 21))),(qP (.mv (.g 2))),(qA (.call 16 [(.l 1),(.l 0)])),(qB 20 (.new 26 [.nilSlice,.nilSlice])),(qA (.store 2 (.l 0) (.l 1)))]) (.seq (.region [(qA (.load 2 true (.g 20))),(qA (.load 2 true (.g 21))),(qA (.call 23 [(.l 1),(.l 0)])),(qP (.mv (.l 0))),(qP (.ext 0 (.l 0))),(qP (.ext 1 (.l 1))),(qB 18 (.new 53 [.nilSlice,.nilSlice,.nilSlice])),(qA (.store 3 (.l 0) (.l 2))),(qQ 19 (.mv (.l 2)))]) (.seq (.seq (.region [(qP (.mv (.g 19))),(qP (.bin .ne (.l 0) (qC 0))),(qP (.mv (.l 0))),(qR 0 false (.fld 2 (.g 18))),(qS 1 false (.load 1 false (.l 0))),(qR 2 false (.len (.l 0))),(qR 3 false (.fld 1 (.g 20))),(qS 4 false (.load 1 false (.l 0))),(qR 5 false (.len (.l 0))),(qR 6 false (.bin .ne (.l 3) (.l 0))),(qP (.pick (.l 7) (.c (.s (.bool true))) (.l 0))),(qP (.mv (.l 0))),(qR 0 false (.fld 2 (.g 18))),(qS 1 false (.load 1 false (.l 0))),(qR 2 false (.ixs 1 (.l 0) (qC 0))),(qS 3 false (.load 1 false (.l 0))),(qR 4 false (.bin .ne (.l 0) (qC 0))),(qQ 17 (.pick (.l 5) (.c (.s (.bool true))) (.l 0)))]) (.cond (.g 17) (.seq (.region [(qQ 3 (.mv (.c (.s (.bool false)))))]) .ret) .skip)) j9q)))))
theorem qs5:T 13=some (.mk qeo 3 19 [(.tmp 3)]):=by kernel_rfl
open Go Go.RowKit Go.Proofs.Ytaljcpoopmedmaa.Ms
attribute [local go_sem] Int.cast_ofNat_Int Int.natCast_zero Int.natCast_one decide_eq_true_eq decide_eq_false_iff_not Bool.false_eq_true and_true true_and List.cons_append List.nil_append reduceCtorEq decide_true decide_false Bool.not_true Bool.not_false Nat.add_zero Nat.zero_add Option.some.injEq Bool.true_eq_false not_true_eq_false not_false_eq_true Hp.next_push Hp.next_put Nat.add_assoc Int.reduceToNat Nat.reduceAdd Nat.reduceMul Nat.reduceEqDiff Int.reduceEq Int.reduceLT Int.reduceLE Int.reduceNeg Int.reduceAdd Int.reduceSub Int.reduceMul Int.reduceNe
attribute [local go_sem ↓] reduceIte
set_option maxHeartbeats 2000000
def dlB (s:List Bool):Bool:=(List.range (gS s).length).all (fun (k:Nat)=>((gS s).getD k []).all (fun t =>
 if dmF (jbf s) t ((jbf s).length+1) k then decide (1<=(ji5 s).getD t 0)&&decide ((ji5 s).getD t 0<=(ji5 s).getD k 0) else decide ((ji5 s).getD t 0<=(ji5 s).getD k 0+1)))
theorem j9r:(shp 5).all (fun s=>dlB s&&((ji5 s).length == (jbf s).length&&((ji5 s).getD 0 1 == 0&&(ji5 s).all (fun n=>decide (n<=1)))))=true:=by kernel_rfl
theorem qp3 {m:Nat×Nat} {f:Fc} {s:List Bool} (o:FlOk m f s) {k:Nat} {b:Blk} (hb:f.blocks[k]?=some b) {bT:Nat} {x0 x1 x2 x3 x12 x13 x14 x15 x16 x17 x19 x20 x21:AV} {Q:Ex->St->Prop} :
 ∀ (d j:Nat) (_:j+d=b.edges.length) {hi:Hp} (_:Ok hi) (_:bT<hi.next) (_:hi.get bT=some (.arr [jah jas (jen s 0),jah jeo (jbf s),jah jas (ji5 s)] 53)) {x4 x5 x7 x9:AV}
  (hQ:∀ hj x4 x5 x7 x9,Ok hj->hi.next<=hj.next->(∀ n,n<hi.next->hj.get n=hi.get n)->Q (.exit 2) (.mk [x0,x1,x2,x3,x4,x5,vi k,x7,.s (jah jem b.edges),x9,vi b.edges.length,vi b.edges.length,x12,x13,x14,x15,x16,x17,.s (.ptr bT 0),x19,x20,x21] hj)),
  W F13 jqf.loop (.mk [x0,x1,x2,x3,x4,x5,vi k,x7,.s (jah jem b.edges),x9,vi b.edges.length,vi j,x12,x13,x14,x15,x16,x17,.s (.ptr bT 0),x19,x20,x21] hi) Q
 | 0,j,hd,hi,ok,hT,xT,x4,x5,x7,x9,hQ=>by
  obtain rfl:j=b.edges.length:=by omega
  rw [jan]
  unfold jqf
  simp (maxSteps:=1000000) (disch:=first|omega|assumption|(simp only [List.length];done)|exact jaa|((repeat (first|apply jac|apply jad));assumption)) only [go_sem,Int.lt_irrefl]
  exact hQ hi _ _ _ _ ok (Nat.le_refl _) (fun _ _=>rfl)
 | d+1,j,hd,hi,ok,hT,xT,x4,x5,x7,x9,hQ=>by
  have hlt:(j:Int)<(b.edges.length:Int):=by omega
  have hne:=(o.k.blk b (List.mem_of_getElem? hb)).2.2
  obtain ⟨e,hio⟩:∃ y,b.edges[j]?=some y:=⟨_,List.getElem?_eq_getElem (by omega)⟩
  have hix:=jak (enc:=jem) (size:=2) hio rfl
  have hs:(j:Int)+1=((j+1:Nat):Int):=by omega
  obtain ⟨g1,g2,g3,g4⟩:=o.edge hb (List.mem_of_getElem? hio)
  have h1:=jmc j9r o.hs
  simp only [Bool.and_eq_true,beq_iff_eq] at h1
  obtain ⟨h1,hdl,_,hd1⟩:=h1
  rw [List.all_eq_true] at hd1
  obtain ⟨p,hp⟩:∃ c,(ji5 s)[e.block]?=some c:=⟨_,List.getElem?_eq_getElem (by omega)⟩
  obtain ⟨q,hq⟩:∃ c,(ji5 s)[k]?=some c:=⟨_,List.getElem?_eq_getElem (by omega)⟩
  have ip:=jak (enc:=jas) (size:=1) hp rfl
  have iq:=jak (enc:=jas) (size:=1) hq rfl
  have q1:=of_decide_eq_true (hd1 q (List.mem_of_getElem? hq))
  unfold dlB at h1
  rw [List.all_eq_true] at h1
  have h2:=h1 k (List.mem_range.2 (by rw [jw7,←jel];exact g4))
  rw [List.getD_eq_getElem?_getD,g1,List.all_eq_true] at h2
  have h3:=h2 e.block g2
  rw [List.getD_eq_getElem?_getD,List.getD_eq_getElem?_getD,hp,hq] at h3
  simp only [Option.getD_some] at h3
  obtain ⟨hA,eA,okA,nA,xA,gA⟩:=jbz ok [.int .i64 0,.nilSlice] (jem e) 51
  have yT:=(gA _ hT).trans xT
  have hh:∀ n:Nat,(hA.next<=n/\n<hA.next)=False:=fun n=>eq_false (by omega)
  have fin:∀ (x4 x5:AV),W F13 jqf.loop (.mk [x0,x1,x2,x3,x4,x5,vi k,.s (.ptr hi.next 0),.s (jah jem b.edges),vb true,vi b.edges.length,vi (j+1:Nat),x12,x13,x14,x15,x16,x17,.s (.ptr bT 0),x19,x20,x21] hA) Q:=fun x4 x5 =>
   qp3 o hb d (j+1) (by omega) okA (by omega) yT (fun hj x4 x5 x7 x9 ok' n g=>hQ hj x4 x5 x7 x9 ok' (by omega) (fun q hq=>(g q (by omega)).trans (gA q hq)))
  unfold jem at xA eA
  rw [jan]
  unfold jqf j9o j9n
  cases hdm:dmF (jbf s) e.block ((jbf s).length+1) k with
  | true =>
   rw [hdm] at h3
   simp only [if_true,Bool.and_eq_true,decide_eq_true_eq] at h3
   have c1:((p:Int)<1)=False:=eq_false (by omega)
   have c2:((q:Int)<(p:Int))=False:=eq_false (by omega)
   simp (maxSteps:=1000000) (disch:=first|omega|assumption|(simp only [List.length];done)|exact jaa|((repeat (first|apply jac|apply jad));assumption)) only [go_sem,jag,eq_true hlt,hix,jem,eA,xA,yT,ip,iq,jas,ju6 o.hs (Int.ofNat_lt.2 g4) hdm,hh,hs,c1,c2]
   exact fin _ _
  | false =>
   rw [hdm] at h3
   simp only [Bool.false_eq_true,if_false,decide_eq_true_eq] at h3
   have c1:(((q+1:Nat):Int)<(p:Int))=False:=eq_false (by omega)
   have c2:(q:Int)+1=((q+1:Nat):Int):=by omega
   simp (maxSteps:=1000000) (disch:=first|omega|assumption|(simp only [List.length];done)|exact jaa|((repeat (first|apply jac|apply jad));assumption)) only [go_sem,jag,eq_true hlt,hix,jem,eA,xA,yT,ip,iq,jas,ju6 o.hs (Int.ofNat_lt.2 g4) hdm,hh,hs,c1,c2]
   exact fin _ _
theorem qp4 {m:Nat×Nat} {f:Fc} {s:List Bool} (o:FlOk m f s) {bT:Nat} {x0 x1 x2 x3 x17 x19 x20 x21:AV} {Q:Ex->St->Prop} :
 ∀ (d j:Nat) (_:j+d=f.blocks.length) {hi:Hp} (_:Ok hi) (_:bT<hi.next) (_:hi.get bT=some (.arr [jah jas (jen s 0),jah jeo (jbf s),jah jas (ji5 s)] 53)) {x4 x5 x6 x7 x8 x9 x10 x11 x12 x14:AV}
  (hQ:∀ hj x4 x5 x6 x7 x8 x9 x10 x11 x12 x14,Q (.exit 0) (.mk [x0,x1,x2,x3,x4,x5,x6,x7,x8,x9,x10,x11,x12,.s (jah ja4 f.blocks),x14,vi f.blocks.length,vi f.blocks.length,x17,.s (.ptr bT 0),x19,x20,x21] hj)),
  W F13 ju9.loop (.mk [x0,x1,x2,x3,x4,x5,x6,x7,x8,x9,x10,x11,x12,.s (jah ja4 f.blocks),x14,vi f.blocks.length,vi j,x17,.s (.ptr bT 0),x19,x20,x21] hi) Q
 | 0,j,hd,hi,ok,hT,xT,x4,x5,x6,x7,x8,x9,x10,x11,x12,x14,hQ=>by
  obtain rfl:j=f.blocks.length:=by omega
  rw [jan]
  unfold ju9
  simp (maxSteps:=1000000) (disch:=first|omega|assumption|(simp only [List.length];done)|exact jaa|((repeat (first|apply jac|apply jad));assumption)) only [go_sem,Int.lt_irrefl]
  exact hQ hi _ _ _ _ _ _ _ _ _ _
 | d+1,j,hd,hi,ok,hT,xT,x4,x5,x6,x7,x8,x9,x10,x11,x12,x14,hQ=>by
  have nb:=o.k.nb
  have hlt:(j:Int)<(f.blocks.length:Int):=by omega
  obtain ⟨b,hio⟩:∃ y,f.blocks[j]?=some y:=⟨_,List.getElem?_eq_getElem (by omega)⟩
  have hix:=jak (enc:=ja4) (size:=3) hio rfl
  have hs:(j:Int)+1=((j+1:Nat):Int):=by omega
  obtain ⟨hA,eA,okA,nA,xA,gA⟩:=jbz ok [.nilSlice,.nilSlice,.nilSlice] (ja4 b) 36
  have yT:=(gA _ hT).trans xT
  have l2:=jaj (enc:=jem) (l:=b.edges)
  unfold ja4 at xA eA
  rw [jan]
  unfold ju9 j9p
  simp (maxSteps:=1000000) (disch:=first|omega|assumption|(simp only [List.length];done)|exact jaa|((repeat (first|apply jac|apply jad));assumption)) only [go_sem,jag,eq_true hlt,hix,ja4,eA,xA,l2]
  refine qp3 o hio b.edges.length 0 (by omega) okA (by omega) yT (fun hj x4 x5 x7 x9 ok' n g=>?_)
  simp (maxSteps:=1000000) (disch:=first|omega|assumption|(simp only [List.length];done)|exact jaa|((repeat (first|apply jac|apply jad));assumption)) only [go_sem,jag,hs]
  exact qp4 o d (j+1) (by omega) ok' (by omega) ((g _ (by omega)).trans yT) hQ
theorem qp5 {h:Hp} (ok:Ok h) {a b:Int} {l:List Pc} (ha:In6 a) (hb:In6 b) (pin:∀ q∈l,Pin q) {xl:SV} (lx:LstE jbx 7 xl l):WC F13 13 [vi a,vi b,.s xl] h (fun v _=>v=.s (.bool true)):=by
 refine jba (qqj rfl rfl rfl rfl rfl rfl rfl rfl rfl rfl rfl rfl rfl) qs5 rfl ?_
 unfold qeo
 obtain ⟨m1,m2⟩:=jp3 a b
 obtain ⟨m,em⟩:∃ m,jiy a b=m:=⟨_,rfl⟩
 rw [em] at m1 m2
 obtain ⟨s,o,_,_⟩:=ju3 m1 m2 l
 obtain ⟨f,ef⟩:∃ f,jdy m l=f:=⟨_,rfl⟩
 rw [ef] at o
 obtain ⟨hA,eA,okA,nA,xA,gA⟩:=jbz ok [.int .i64 0,.int .i64 0] [si m.1,si m.2] 30
 obtain ⟨hB,eB,okB,nB,xB,gB⟩:=jbz okA [.nilSlice,.nilSlice] [jah jas f.values,jah ja4 f.blocks] 26
 obtain ⟨hC,eC,okC,nC,xC,gC⟩:=jbz okB [.nilSlice,.nilSlice,.nilSlice] [jah jas (jen s 0),jah jeo (jbf s),jah jas (ji5 s)] 53
 have yA:=(gB _ (by omega)).trans xA
 have zA:=(gC _ (by omega)).trans yA
 have zB:=(gC _ (by omega)).trans xB
 have nb:hB.next=h.next+2:=by omega
 rw [nA] at eB xB zB
 rw [nb] at eC xC
 have l1:=jaj (enc:=ja4) (l:=f.blocks)
 have h1:=jmc j9r o.hs
 simp only [Bool.and_eq_true,beq_iff_eq] at h1
 obtain ⟨_,hdl,hd0,_⟩:=h1
 have l3:=jaj (enc:=jas) (l:=ji5 s)
 have hp:(ji5 s)[0]?=some 0:=by
  rw [List.getD_eq_getElem?_getD] at hd0
  cases e:(ji5 s)[0]? with
  | none=>rw [e] at hd0;cases hd0
  | some c=>rw [e] at hd0;exact congrArg some hd0
 have ip:jxu 1 (.s (jah jas (ji5 s))) (vi 0)=some (.s (.cp (jas 0))):=jak (enc:=jas) (size:=1) hp rfl
 have c1:(((ji5 s).length:Int)≠(f.blocks.length:Int))=False:=by rw [hdl,jel,o.len];simp
 simp (maxSteps:=1000000) (disch:=first|omega|assumption|(simp only [List.length];done)|exact jaa|((repeat (first|apply jac|apply jad));assumption)) only [go_sem,jut,nb,eC,zA,zB,jmt ha hb,em,j37,eA,nA,xA,jxo m1 m2 pin lx,ef,j36,eB,yA,xB,j2q o m1 m2,ju4,xC,l1,l3,c1,ip,jas]
 unfold j9q
 simp (maxSteps:=1000000) (disch:=first|omega|assumption|(simp only [List.length];done)|exact jaa|((repeat (first|apply jac|apply jad));assumption)) only [go_sem,zB,l1]
 refine qp4 o f.blocks.length 0 (by omega) okC (by omega) xC (fun hj x4 x5 x6 x7 x8 x9 x10 x11 x12 x14=>?_)
 simp (maxSteps:=1000000) (disch:=first|omega|assumption|(simp only [List.length];done)|exact jaa|((repeat (first|apply jac|apply jad));assumption)) only [go_sem]
end Go.Proofs.Ytaljcpoopmedmaa.Ev
