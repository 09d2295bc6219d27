/- Code of functions as the interpreter has it prepared, cut at loops. -/
import Derived.Test.YtehhjbfmjdlcjaaBp
namespace Go.Proofs.Ytehhjbfmjdlcjaa.Ev
open Go Go.RowKit
set_option linter.all false
set_option maxRecDepth 100000
def qcp:IC:=.seq (.block 1 (qr [qP (.ixs 2 (.g 5) (.g 8)),qK 2,qB 4 (.new 65 [.int .i64 0,.int .i64 0]),qA (.store 2 qa qb)] (qr [qM 1,qF 0 4,qL,qP (.bin .ge qc qa),qP (.mv qa),qR 0 true (.mv (.g 1)),qR 1 true (.fld 1 (.g 4)),qS 2 true (.load 1 false qa),qR 3 true (.bin .lt qc qa),qQ 3 (.pick (.l 4) qa (.c (.s (.bool false))))] (.cond (.g 3) (qr [qQ 2 (.mv (.c (.s (.bool true))))] .ret) .skip)))) (.region [qI 8,qT 8])
def jvw:IC:=qr [qQ 6 (.bin .lt (.g 8) (.g 7))] (.seq (qX 6 0) qcp)
def qim:IC:=qr [qQ 2 (.mv (.c (.s (.bool false))))] (.seq (qr [qQ 5 (.mv (.g 0)),qQ 7 (.len qa),qQ 8 (.mv (qC 0))] (.block 0 (.loop jvw))) (qr [qQ 2 (.mv (.c (.s (.bool false))))] .ret))
theorem qy1:T 17=some (.mk qim 2 7 [(.tmp 2)]):=by kernel_rfl
def qin:IC:=qr [qQ 2 (.mv (.c (.s (.bool false))))] (qr [qM 0,qM 1,qA (.call 66 [qb,qa]),qP (.bin .ge qa (qC 0)),qT 2] .ret)
theorem qy2:T 44=some (.mk qin 2 1 [(.tmp 2)]):=by kernel_rfl
def qcq:IC:=.seq (.block 1 (qr [qM 7,qT 4] (qr [qM 1,qM 0,qM 4,qP (.ixs 1 qb qa),qL,qQ 3 (.bin .eq (.l 4) qa)] (.cond (.g 3) (qr [qM 4,qT 2] .ret) .skip)))) (.region [qI 7,qT 7])
def jvx:IC:=qr [qQ 5 (.bin .lt (.g 7) (.g 6))] (.seq (qX 5 0) qcq)
def qio:IC:=qr [qQ 2 (.mv (qC 0))] (.seq (qr [qM 0,qQ 6 (.len qa),qQ 7 (.mv (qC 0))] (.block 0 (.loop jvx))) (qr [qQ 2 (.mv (qC (-1)))] .ret))
theorem qy3:T 66=some (.mk qio 2 6 [(.tmp 2)]):=by kernel_rfl
def qcr:IC:=.seq (.block 3 (qr [qP (.ixs 5 (.g 13) (.g 16)),qK 5,qB 12 (.new 48 [.int .i64 0,.int .i64 0,.bool false,.int .i64 0,.int .i64 0]),qA (.store 5 qa qb)] (.block 4 (qr [qF 1 12,qL,qM 2,qP (.bin .ne qb qa),qT 11] (.cond (.g 11) .skip (qr [qF 0 12,qL,qP (.bin .eq qa (qC 2)),qP (.mv qa),qR 0 true (.fld 2 (.g 12)),qS 1 true (.load 1 false qa),qP (.pick qc qa (.c (.s (.bool false)))),qT 10] (.cond (.g 10) (.region [qM 9,qP (.bin .add qa (qC 1)),qM 9,qP (.bin .add qa (qC 2)),qP (.build [.int .i64 0,.int .i64 0] [(0,(1,qc)),(1,(1,qa))]),qA (.store 2 (.g 23) qa),qQ 25 (.mv (.c (.s (.bool true))))]) (qr [qF 0 12,qL,qP (.bin .eq qa (qC 2)),qT 8] (.cond (.g 8) (.region [qM 9,qM 9,qP (.bin .add qa (qC 2)),qP (.build [.int .i64 0,.int .i64 0] [(0,(1,qc)),(1,(1,qa))]),qA (.store 2 (.g 23) qa),qQ 25 (.mv (.c (.s (.bool true))))]) (qr [qF 2 12,qL,qT 7] (.cond (.g 7) (.region [qF 1 23,qL,qM 9,qP (.bin .add qa (qC 2)),qP (.mm true qc qa),qF 1 23,qA (.store 1 qa qb)]) (.region [qF 1 23,qL,qM 9,qP (.bin .add qa (qC 1)),qP (.mm true qc qa),qF 1 23,qA (.store 1 qa qb)])))))))))))) (.region [qI 16,qT 16])
def jvy:IC:=qr [qQ 14 (.bin .lt (.g 16) (.g 15))] (.seq (qX 14 2) qcr)
def qcs:IC:=.seq (.block 1 (qr [qM 22,qP (.ixs 3 (.g 19) (.g 22)),qK 3,qB 17 (.new 46 [.int .i64 0,.nilSlice,.nilSlice]),qQ 18 (.mv qd),qA (.store 3 qb qc)] (qr [qM 3,qP (.bin .add qa (qC 1)),qM 18,qP (.bin .mul (qC 2) qa),qP (.bin .add qc qa),qT 9] (qr [qF 1 17,qB 13 (.load 1 false qa),qQ 15 (.len qa),qQ 16 (.mv (qC 0))] (.block 2 (.loop jvy)))))) (.region [qI 22,qT 22])
def jvz:IC:=qr [qQ 20 (.bin .lt (.g 22) (.g 21))] (.seq (qX 20 0) qcs)
def j1d:IC:=qr [qA (.load 2 true (.g 23)),qM 25,qA (.store 2 (.g 5) qb),qQ 4 (.mv qb)] .ret
def j1e:IC:=.seq (qr [qF 1 26,qB 19 (.load 1 false qa),qQ 21 (.len qa),qQ 22 (.mv (qC 0))] (.block 0 (.loop jvz))) (.seq (qr [qM 0,qN,qG 3,qL,qM 1,qP (.ixs 1 qb qa),qL,qM 2,qB 6 (.call 43 [qb,qa])] (.cond (.g 6) (.region [qM 3,qP (.bin .add qa (qC 2)),qF 1 26,qL,qP (.len qa),qP (.bin .mul (qC 2) qa),qP (.bin .add (.l 4) qa),qF 1 23,qA (.store 1 qa qb)]) .skip)) j1d)
def qip:IC:=qr [qB 5 (.new 65 [.int .i64 0,.int .i64 0]),qQ 4 (.mv (.c (.s (.bool false))))] (qr [qM 0,qN,qG 0,qG 1,qL,qM 1,qP (.ixs 3 qb qa),qK 3,qB 26 (.new 42 [.nilSlice,.nilSlice,.nilSlice]),qA (.store 3 qa qb)] (qr [qB 23 (.new 65 [.int .i64 0,.int .i64 0])] (qr [qM 0,qN,qG 2,qL,qM 1,qP (.ixs 1 qb qa),qL,qM 2,qA (.call 43 [qb,qa]),qP (.mv qa),qR 0 false (.fld 0 (.g 26)),qS 1 false (.load 1 false qa),qR 2 false (.mv (.g 2)),qS 3 false (.call 44 [qb,qa]),qP (.pick (.l 4) (.c (.s (.bool true))) qa),qT 25] (.seq (qr [qQ 24 (.mv (.g 25))] (.cond (.g 24) (.region [qM 3,qM 3,qP (.bin .add qa (qC 1)),qP (.build [.int .i64 0,.int .i64 0] [(0,(1,qc)),(1,(1,qa))]),qA (.store 2 (.g 23) qa)]) .skip)) j1e))))
theorem qy4:T 28=some (.mk qip 4 23 [(.cell 5 2 true),(.tmp 4)]):=by kernel_rfl
def j1f:IC:=.region [qM 8,qM 12,qM 7,qA (.load 2 true (.g 5)),qA (.bslice 65 2 [.int .i64 0,.int .i64 0] 1 [(0,(2,qa))]),qA (.app 65 2 16 qc qa),qP (.ixs 1 (.l 5) (.l 4)),qA (.store 1 qa qb)]
def qct:IC:=qr [qM 8,qM 12,qP (.ixs 1 qb qa),qL,qT 7] (.seq (qr [qM 7,qP (.len qa),qP (.bin .sub qa (qC 1)),qT 6] (.seq (.draw [(qM 6,.none),(qP (.bin .ge qa (qC 0)),.none),(qP (.mv qa),.none),(qR 0 true (.mv (.g 7)),.none),(qR 1 true (.mv (.g 6)),.none),(qR 2 true (.ixs 2 qb qa),.none),(qR 3 true (.fld 1 qa),.none),(qS 4 true (.load 1 false qa),.some []),(qR 5 true (.fld 0 (.g 5)),.none),(qS 6 true (.load 1 false qa),.some [1]),(qR 7 true (.bin .eq qc qa),.none),(qQ 4 (.pick (.l 8) qa (.c (.s (.bool false)))),.none)]) (.cond (.g 4) (qr [qM 7,qM 6,qF 1 5,qL,qP (.ixs 2 qd qc),qG 1,qA (.store 1 qa qc)] (.exit 3)) .skip))) j1f)
def qcu:IC:=.seq (.block 3 (qr [qM 17,qT 12] (qr [qM 14,qM 13,qM 12,qM 11,qM 13,qP (.ixs 1 qb qa),qL,qA (.call 28 [.l 6,.l 5,.l 4,qa]),qP (.mv qa),qP (.ext 0 qa),qP (.ext 1 qb),qB 5 (.new 65 [.int .i64 0,.int .i64 0]),qA (.store 2 qa qc),qQ 10 (.mv qc)] (.seq (qr [qM 10,qQ 9 (.not qa)] (.cond (.g 9) (.exit 3) .skip)) qct)))) (.region [qI 17,qT 17])
def jqr:IC:=qr [qQ 15 (.bin .lt (.g 17) (.g 16))] (.seq (qX 15 2) qcu)
def qcv:IC:=.seq (.block 1 (qr [qM 20,qT 13] (qr [qF 0 25,qL,qQ 16 (.len qa),qQ 17 (.mv (qC 0))] (.block 2 (.loop jqr))))) (.region [qI 20,qT 20])
def jv0:IC:=qr [qQ 18 (.bin .lt (.g 20) (.g 19))] (.seq (qX 18 0) qcv)
def qcw:IC:=qr [qA (.load 2 true (.g 25)),qF 0 21,qL,qA (.call 26 [qc,qa]),qT 14] (qr [qA (.load 2 true (.g 25)),qA (.call 16 [qa]),qT 11] (qr [qF 0 25,qL,qP (.len qa),qA (.mkslice 63 1 24 [.nilSlice] qa qa),qT 8] (.seq (qr [qF 1 25,qL,qQ 19 (.len qa),qQ 20 (.mv (qC 0))] (.block 0 (.loop jv0))) (qr [qM 8,qT 3,qQ 2 (.mv (qC 0))] .ret))))
def qiq:IC:=qr [qB 25 (.box 30 (.g 0)),qB 24 (.box 25 (.g 1)),qQ 3 (.mv (.c (.s .nilSlice))),qQ 2 (.mv (qC 0))] (qr [qA (.load 2 true (.g 25)),qA (.load 2 true (.g 24)),qA (.call 12 [qb,qa]),qP (.mv qa),qP (.ext 0 qa),qP (.ext 1 qb),qB 21 (.new 36 [.nilSlice,.nilSlice,.nilSlice]),qA (.store 3 qa qc),qQ 23 (.mv qc)] (.seq (qr [qM 23,qQ 22 (.bin .ne qa (qC 0))] (.cond (.g 22) (qr [qM 23,qQ 3 (.mv (.c (.s .nilSlice))),qQ 2 (.mv qb)] .ret) .skip)) qcw))
theorem qy5:T 15=some (.mk qiq 2 24 [(.tmp 3),(.tmp 2)]):=by kernel_rfl
open Go Go.RowKit Go.Proofs.Ytehhjbfmjdlcjaa.Ms
variable {x0 x1 x2 x3 x4 x5 x6 x18 x19 x20 x21 x22 x23 x24 x26:AV} {hi:Hp} {ic oc:List Nat} {xs:List SV} {N p Ln ci co fx:Nat} {q:Nat×Nat}
attribute [local go_sem] Int.reduceToNat reduceCtorEq Nat.reduceAdd Nat.reduceMul Nat.reduceEqDiff Int.reduceEq Int.reduceLT Int.reduceLE Int.reduceNeg Int.reduceAdd Int.reduceSub Int.reduceMul Int.reduceNe
attribute [local go_sem ↓] reduceIte
set_option maxHeartbeats 4000000
theorem qir {F:Fns} {l:List Nat} {n:Nat} (hl:l.length<=10000) {Q:Ex->St->Prop} :
 ∀ (rest done:List Nat) (_:done++rest=l) {hi:Hp} (_:Ok hi) {x3 x4 x5:AV}
  (_:n∈rest->∀ (k:Nat) x3 x4 x5 x6 x7,Q .ret (.mk [.s (jae jal l),vi n,vi k,x3,x4,x5,x6,x7] hi)) (_:n∉rest->∀ x3 x4 x5 x6 x7,Q (.exit 0) (.mk [.s (jae jal l),vi n,x2,x3,x4,x5,x6,x7] hi)),
  W F jvx.loop (.mk [.s (jae jal l),vi n,x2,x3,x4,x5,vi l.length,vi done.length] hi) Q
 | [],done,hdn,hi,ok,x3,x4,x5,h1,h2=>by
  rw[f1c] at hdn
  subst hdn
  rw[jai]
  unfold jvx
  simp(disch:=first|omega|rfl) only[go_sem,f0o]
  exact h2 (by simp) _ _ _ _ _
 | v::rest,done,hdn,hi,ok,x3,x4,x5,h1,h2=>by
  have hlt1:done.length<l.length:=by rw[←hdn];simp
  have hlt:(done.length:Int)<l.length:=by omega
  have hget:l[done.length]?=some v:=by rw[←hdn];simp
  have hix:=jag (enc:=jal) (size:=1) hget rfl
  have hdn':(done++[v])++rest=l:=by rw[←hdn];simp
  have hs:(done.length:Int)+1=(((done++[v]).length:Nat):Int):=by simp
  rw[jai]
  unfold jvx qcq
  by_cases e:v=n
  .have c1:((n:Int)=(v:Int))=True:=eq_true (by omega)
   simp(disch:=first|omega|rfl) only[go_sem,jab,eq_true hlt,hix,jal,c1]
   exact h1 (by simp[e]) _ _ _ _ _ _
  .have c1:((n:Int)=(v:Int))=False:=eq_false (by omega)
   simp(disch:=first|omega|rfl) only[go_sem,jab,eq_true hlt,hix,jal,c1,hs]
   exact qir hl rest (done++[v]) hdn' ok (fun h=>h1 (by simp[h])) (fun h=>h2 (by simp[h,Ne.symm e]))
structure SpG (F:Fns):Prop where
 none:∀ f∈[43,44,66,28],∀ vs h,jb9 F f vs h=Option.none
 T:∀ f,jqt F f=Ev.T f
section
variable {F:Fns} (B:SpG F)
include B
theorem qqf {h:Hp} (ok:Ok h) {l:List Nat} {n:Nat} (hl:l.length<=10000):WC F 44 [.s (jae jal l),vi n] h (fun u h'=>u=vb (decide (n∈l))/\h'=h):=by
 refine ja3 (B.none _ (by simp) _ _) ((B.T _).trans qy2) rfl ?_
 unfold qin
 simp(disch:=first|omega|rfl) only[go_sem]
 refine ja3 (B.none _ (by simp) _ _) ((B.T _).trans qy3) rfl ?_
 unfold qio
 have ll:=jaf (enc:=jal) (l:=l)
 simp(disch:=first|omega|rfl) only[go_sem,ll]
 refine qir hl l [] rfl ok (fun h k x3 x4 x5 x6 x7=>?_) (fun h x3 x4 x5 x6 x7=>?_)
 .have hk:(0:Int)<=(k:Int):=by omega
  simp(disch:=first|omega|rfl) only[go_sem,eq_true hk,eq_true h]
 .simp (disch:=first|omega|rfl) only[go_sem,eq_false h]
omit B in
theorem j53 {l:List Ms.Opd} {v e sp:Nat} (hl:l.length<=1000) (he:e<=1000000) {fin:Sp} {x17:AV} {Q:Ex->St->Prop} :
 ∀ (d i:Nat) (_:i+d=l.length) {hi:Hp} {s:Sp} (_:Ok hi) (_:1<=sp/\sp<hi.next) (_:hi.get sp=some (.arr [si s.a,si s.z] 65)) (_:(l.drop i).foldl (jk2 v e) s=fin) {x7 x8 x10 x11 x12 x14:AV}
  (hQ:∀ hj x7 x8 x10 x11 x12 x14,Ok hj->hi.next<=hj.next->hj.get sp=some (.arr [si fin.a,si fin.z] 65)->(∀ n,n<hi.next->n≠sp->hj.get n=hi.get n)->Q (.exit 2) (.mk [x0,x1,vi v,x3,x4,x5,x6,x7,x8,vi e,x10,x11,x12,.s (jae jbd l),x14,vi l.length,vi l.length,x17,x18,x19,x20,x21,x22,.s (.ptr sp 0),x24,vb fin.t,x26] hj)),
  W F jvy.loop (.mk [x0,x1,vi v,x3,x4,x5,x6,x7,x8,vi e,x10,x11,x12,.s (jae jbd l),x14,vi l.length,vi i,x17,x18,x19,x20,x21,x22,.s (.ptr sp 0),x24,vb s.t,x26] hi) Q
 | 0,i,hd,hi,s,ok,hsp,xs,hf,x7,x8,x10,x11,x12,x14,hQ=>by
  obtain rfl:i=l.length:=by omega
  rw[f2c] at hf
  have hf':s=fin:=hf
  subst hf'
  rw[jai]
  unfold jvy
  simp(disch:=first|omega|rfl) only[go_sem,f0o]
  exact hQ hi _ _ _ _ _ _ ok (f0f _) xs (fun _ _ _=>rfl)
 | d+1,i,hd,hi,s,ok,hsp,xs,hf,x7,x8,x10,x11,x12,x14,hQ=>by
  have hil:i<l.length:=by omega
  have hlt:(i:Int)<(l.length:Int):=by omega
  have hs:(i:Int)+1=((i+1:Nat):Int):=by omega
  obtain⟨o,hu⟩:∃ u,l[i]?=some u:=⟨_,f0a hil⟩
  have hix:=jag (enc:=jbd) (size:=5) hu rfl
  have hdr:l.drop i=o::l.drop (i+1):=by
   rw[f03 hil];congr 1;exact(f0h.1 hu).2
  rw[hdr,f1o] at hf
  obtain⟨hA,eA,okA,nA,xA,gA⟩:=jbt ok [.int .i64 0,.int .i64 0,.bool false,.int .i64 0,.int .i64 0] (jbd o) 48
  unfold jbd at xA eA
  have xsA:=(gA sp hsp.2).trans xs
  rw[jai]
  unfold jvy qcr
  by_cases ev:o.value=v
  .have c1:((o.value:Int)≠(v:Int))=False:=eq_false (by omega)
   have w1:(e:Int)+1=((e+1:Nat):Int):=by omega
   have w2:(e:Int)+2=((e+2:Nat):Int):=by omega
   by_cases ek:o.kind=2
   .have c2:((o.kind:Int)=2)=True:=eq_true (by omega)
    by_cases el:o.late=true
    .have e1:jk2 v e s o=⟨e+1,e+2,true⟩:=by unfold jk2;rw[if_pos ev,if_pos ek,if_pos el]
     rw[e1] at hf
     rw[el] at xA eA
     obtain⟨hB,eB,okB,nB,xB,gB⟩:=jq7 okA hsp.1 (some (.arr [si ((e+1:Nat):Int),si ((e+2:Nat):Int)] 65))
     simp(disch:=first|omega|rfl) only[go_sem,jab,eq_true hlt,hix,jbd,eA,xA,c1,c2,el,xsA,w1,w2,eB,hs]
     exact j53 hl he d (i+1) (by omega) okB (by omega) xB hf (fun hj x7 x8 x10 x11 x12 x14 k1 k2 k3 k4=>hQ hj x7 x8 x10 x11 x12 x14 k1 (by omega) k3 (fun n h1 h2=>(k4 n (by omega) h2).trans ((gB n h2).trans (gA n h1))))
    .have ef:o.late=false:=by cases h:o.late<;>first | rfl | exact absurd h el
     have e1:jk2 v e s o=⟨e,e+2,true⟩:=by unfold jk2;rw[if_pos ev,if_pos ek,if_neg el]
     rw[e1] at hf
     rw[ef] at xA eA
     obtain⟨hB,eB,okB,nB,xB,gB⟩:=jq7 okA hsp.1 (some (.arr [si (e:Int),si ((e+2:Nat):Int)] 65))
     simp(disch:=first|omega|rfl) only[go_sem,jab,eq_true hlt,hix,jbd,eA,xA,c1,c2,ef,xsA,w1,w2,eB,hs]
     exact j53 hl he d (i+1) (by omega) okB (by omega) xB hf (fun hj x7 x8 x10 x11 x12 x14 k1 k2 k3 k4=>hQ hj x7 x8 x10 x11 x12 x14 k1 (by omega) k3 (fun n h1 h2=>(k4 n (by omega) h2).trans ((gB n h2).trans (gA n h1))))
   .have c2:((o.kind:Int)=2)=False:=eq_false (by omega)
    by_cases el:o.late=true
    .have e1:jk2 v e s o=⟨s.a,max s.z (e+2),s.t⟩:=by unfold jk2;rw[if_pos ev,if_neg ek,if_pos el]
     rw[e1] at hf
     have hm:(if (s.z:Int)<=((e+2:Nat):Int) then ((e+2:Nat):Int) else (s.z:Int))=((max s.z (e+2):Nat):Int):=by split<;>omega
     rw[el] at xA eA
     obtain⟨hB,eB,okB,nB,xB,gB⟩:=jq7 okA hsp.1 (some (.arr [si (s.a:Int),si ((max s.z (e+2):Nat):Int)] 65))
     simp(disch:=first|omega|rfl) only[go_sem,jab,eq_true hlt,hix,jbd,eA,xA,c1,c2,el,xsA,w1,w2,hm,eB,hs]
     exact j53 hl he d (i+1) (by omega) okB (by omega) xB hf (fun hj x7 x8 x10 x11 x12 x14 k1 k2 k3 k4=>hQ hj x7 x8 x10 x11 x12 x14 k1 (by omega) k3 (fun n h1 h2=>(k4 n (by omega) h2).trans ((gB n h2).trans (gA n h1))))
    .have ef:o.late=false:=by cases h:o.late<;>first | rfl | exact absurd h el
     have e1:jk2 v e s o=⟨s.a,max s.z (e+1),s.t⟩:=by unfold jk2;rw[if_pos ev,if_neg ek,if_neg el]
     rw[e1] at hf
     have hm:(if (s.z:Int)<=((e+1:Nat):Int) then ((e+1:Nat):Int) else (s.z:Int))=((max s.z (e+1):Nat):Int):=by split<;>omega
     rw[ef] at xA eA
     obtain⟨hB,eB,okB,nB,xB,gB⟩:=jq7 okA hsp.1 (some (.arr [si (s.a:Int),si ((max s.z (e+1):Nat):Int)] 65))
     simp(disch:=first|omega|rfl) only[go_sem,jab,eq_true hlt,hix,jbd,eA,xA,c1,c2,ef,xsA,w1,w2,hm,eB,hs]
     exact j53 hl he d (i+1) (by omega) okB (by omega) xB hf (fun hj x7 x8 x10 x11 x12 x14 k1 k2 k3 k4=>hQ hj x7 x8 x10 x11 x12 x14 k1 (by omega) k3 (fun n h1 h2=>(k4 n (by omega) h2).trans ((gB n h2).trans (gA n h1))))
  .have c1:((o.value:Int)≠(v:Int))=True:=eq_true (by omega)
   rw[show jk2 v e s o=s from if_neg ev] at hf
   simp(disch:=first|omega|rfl) only[go_sem,jab,eq_true hlt,hix,jbd,eA,xA,c1,hs]
   exact j53 hl he d (i+1) (by omega) okA (by omega) xsA hf (fun hj x7 x8 x10 x11 x12 x14 k1 k2 k3 k4=>hQ hj x7 x8 x10 x11 x12 x14 k1 (by omega) k3 (fun n h1 h2=>(k4 n (by omega) h2).trans (gA n h1)))
omit B in
theorem qu5 {l:List Ms.Ins} {v st sp:Nat} (hl:l.length<=1000) (ho:∀ y∈l,y.ops.length<=6) (hst:st<=100000) {fin:Sp} {Q:Ex->St->Prop} :
 ∀ (d i:Nat) (_:i+d=l.length) {hi:Hp} {s:Sp} (_:Ok hi) (_:1<=sp/\sp<hi.next) (_:hi.get sp=some (.arr [si s.a,si s.z] 65)) (_:jic v st i (l.drop i) s=fin) {x7 x8 x9 x10 x11 x12 x13 x14 x15 x16 x17 x18 x20:AV}
  (hQ:∀ hj x7 x8 x9 x10 x11 x12 x13 x14 x15 x16 x17 x18 x20,Ok hj->hi.next<=hj.next->hj.get sp=some (.arr [si fin.a,si fin.z] 65)->(∀ n,n<hi.next->n≠sp->hj.get n=hi.get n)->Q (.exit 0) (.mk [x0,x1,vi v,vi st,x4,x5,x6,x7,x8,x9,x10,x11,x12,x13,x14,x15,x16,x17,x18,.s (jae jc6 l),x20,vi l.length,vi l.length,.s (.ptr sp 0),x24,vb fin.t,x26] hj)),
  W F jvz.loop (.mk [x0,x1,vi v,vi st,x4,x5,x6,x7,x8,x9,x10,x11,x12,x13,x14,x15,x16,x17,x18,.s (jae jc6 l),x20,vi l.length,vi i,.s (.ptr sp 0),x24,vb s.t,x26] hi) Q
 | 0,i,hd,hi,s,ok,hsp,xs,hf,x7,x8,x9,x10,x11,x12,x13,x14,x15,x16,x17,x18,x20,hQ=>by
  obtain rfl:i=l.length:=by omega
  rw[f2c] at hf
  have hf':s=fin:=hf
  subst hf'
  rw[jai]
  unfold jvz
  simp(disch:=first|omega|rfl) only[go_sem,f0o]
  exact hQ hi _ _ _ _ _ _ _ _ _ _ _ _ _ ok (f0f _) xs (fun _ _ _=>rfl)
 | d+1,i,hd,hi,s,ok,hsp,xs,hf,x7,x8,x9,x10,x11,x12,x13,x14,x15,x16,x17,x18,x20,hQ=>by
  have hil:i<l.length:=by omega
  have hlt:(i:Int)<(l.length:Int):=by omega
  have hs:(i:Int)+1=((i+1:Nat):Int):=by omega
  obtain⟨y,hu⟩:∃ u,l[i]?=some u:=⟨_,f0a hil⟩
  have h6:=ho y (f0b hu)
  have hix:=jag (enc:=jc6) (size:=3) hu rfl
  have hdr:l.drop i=y::l.drop (i+1):=by
   rw[f03 hil];congr 1;exact(f0h.1 hu).2
  rw[hdr] at hf
  have hf2:jic v st (i+1) (l.drop (i+1)) (y.ops.foldl (jk2 v (st+1+2*i)) s)=fin:=hf
  obtain⟨hA,eA,okA,nA,xA,gA⟩:=jbt ok [.int .i64 0,.nilSlice,.nilSlice] (jc6 y) 46
  have lo1:=jaf (enc:=jbd) (l:=y.ops)
  unfold jc6 at xA eA
  have xsA:=(gA sp hsp.2).trans xs
  obtain⟨e,ee⟩:∃ e,st+1+2*i=e:=⟨_,rfl⟩
  rw[ee] at hf2
  have w1:(st:Int)+1+2*(i:Int)=(e:Int):=by omega
  rw[jai]
  unfold jvz qcs
  simp(disch:=first|omega|rfl) only[go_sem,jab,eq_true hlt,hix,jc6,eA,xA,lo1,w1]
  refine j53 (l:=y.ops) (v:=v) (e:=e) (sp:=sp) (by omega) (by omega) (fin:=y.ops.foldl (jk2 v e) s) y.ops.length 0 (by omega) okA (by omega) xsA rfl (fun hj x7 x8 x10 x11 x12 x14 kj nj xj gj=>?_)
  simp(disch:=first|omega|rfl) only[go_sem,jab,hs]
  exact qu5 hl ho hst d (i+1) (by omega) kj (by omega) xj hf2 (fun hk x7 x8 x9 x10 x11 x12 x13 x14 x15 x16 x17 x18 x20 k1 k2 k3 k4=>hQ hk x7 x8 x9 x10 x11 x12 x13 x14 x15 x16 x17 x18 x20 k1 (by omega) k3 (fun n h1 h2=>(k4 n (by omega) h2).trans ((gj n (by omega) h2).trans (gA n h1))))
end
section
variable {F:Fns} (B:SpG F)
include B
theorem j1g {f:Fc} {ins outs:List (List Nat)} (k:NS hi f N p ci co ic oc ins outs) (lv:LvOk f N) {b v st sp rp xb L:Nat} {x:Ms.Blk} (hb:f.blocks[b]?=some x) (hv:v<f.values.length) (hst:st<=100000)
 {s:Sp} (hL:∀ n∈p::ci::co::(ic++oc),n<L) (hn:L<=sp/\sp<hi.next/\L<=rp/\rp<hi.next/\L<=xb/\xb<hi.next/\sp≠rp/\sp≠xb/\rp≠xb/\1<=L) (xs:hi.get sp=some (.arr [si s.a,si s.z] 65)) (xr:hi.get rp=some (.arr [si 0,si 0] 65)) (xx:hi.get xb=some (.arr (jax x) 42))
 {x4 x6 x7 x8 x9 x10 x11 x12 x13 x14 x15 x16 x17 x18 x19 x20 x21 x22 x24:AV} {Q:Ex->St->Prop}
 (hQ:∀ (r:Sp) hk x6 x7 x8 x9 x10 x11 x12 x13 x14 x15 x16 x17 x18 x19 x20 x21 x22,r=(if jbn (outs.getD b []) v=true then ⟨(jic v st 0 x.instrs s).a,st+2+2*x.instrs.length,(jic v st 0 x.instrs s).t⟩ else jic v st 0 x.instrs s)->Ok hk->hi.next<=hk.next->hk.get rp=some (.arr [si r.a,si r.z] 65)->(∀ n,n<L->hk.get n=hi.get n) ->
  Q .ret (.mk [.s (.ptr p 0),vi b,vi v,vi st,vb r.t,.s (.ptr rp 0),x6,x7,x8,x9,x10,x11,x12,x13,x14,x15,x16,x17,x18,x19,x20,x21,x22,.s (.ptr sp 0),x24,vb r.t,.s (.ptr xb 0)] hk)) :
 W F j1e (.mk [.s (.ptr p 0),vi b,vi v,vi st,x4,.s (.ptr rp 0),x6,x7,x8,x9,x10,x11,x12,x13,x14,x15,x16,x17,x18,x19,x20,x21,x22,.s (.ptr sp 0),x24,vb s.t,.s (.ptr xb 0)] hi) Q:=by
 obtain⟨n1,n2,n3,n4,n5,n6,n7,n8,n9,n10⟩:=hn
 obtain⟨p1,p2,p3,p4,p5,p6⟩:=lv.blk x (f0b hb)
 have hbl:=(f0h.1 hb).1
 have hN:=lv.hN
 have hnv:=lv.nv
 have ok:=k.ok
 have li:=jaf (enc:=jc6) (l:=x.instrs)
 unfold jax at xx
 unfold j1e
 simp(disch:=first|omega|rfl) only[go_sem,xx,li]
 refine qu5 (l:=x.instrs) (v:=v) (st:=st) (sp:=sp) (by omega) (fun y hy=>(p5 y hy).1) hst (fin:=jic v st 0 x.instrs s) x.instrs.length 0 (by omega) ok (by omega) xs rfl (fun hj x7 x8 x9 x10 x11 x12 x13 x14 x15 x16 x17 x18 x20 kj nj xj gj=>?_)
 generalize jic v st 0 x.instrs s=r at hQ xj ⊢
 have g0:∀ n,n<L->hj.get n=hi.get n:=fun n h=>gj n (by omega) (by omega)
 have kk:=k.keep kj nj (fun n h=>g0 n (hL n h))
 obtain⟨c,hc⟩:∃ c,oc[b]?=some c:=⟨_,f0a (by rw[k.lo];exact hbl)⟩
 have hso:=jhq (c:=co) (L:=f.blocks.length) (ex:=false) hbl
 have hro:=rdS (l:=oc.map (jb4 N)) (i:=b) (x:=jb4 N c) (ty:=80) (by rw[f0p,hc];rfl)
 have xp:=kk.xp
 have xo:=kk.xo
 have xxj:=(gj xb (by omega) (by omega)).trans xx
 have xrj:=(gj rp (by omega) (by omega)).trans xr
 simp(disch:=first|omega|rfl) only[go_sem,xp,xo,hso,hro]
 refine WC.imp (qa2 (F:=F) kj (kk.bo b c hc) (v:=v) (by omega) (by omega) (B.none _ (by simp) _ _) (B.T _)) ?_
 rintro _ _ ⟨rfl,rfl⟩
 by_cases e:jbn (outs.getD b []) v=true
 .have w1:(st:Int)+2+2*(x.instrs.length:Int)=((st+2+2*x.instrs.length:Nat):Int):=by omega
  obtain⟨z,ez⟩:∃ z,st+2+2*x.instrs.length=z:=⟨_,rfl⟩
  rw[ez] at w1 hQ
  obtain⟨hA,eA,okA,nA,xA,gA⟩:=jq7 kj (show 1<=sp by omega) (some (.arr [si (r.a:Int),si (z:Int)] 65))
  obtain⟨hB,eB,okB,nB,xB,gB⟩:=jq7 okA (show 1<=rp by omega) (some (.arr [si (r.a:Int),si (z:Int)] 65))
  have xrA:=(gA rp (fun h=>n7 h.symm)).trans xrj
  rw[e]
  simp(disch:=first|omega|rfl) only[go_sem,jab,xxj,li,w1,xj,eA]
  unfold j1d
  simp(disch:=first|omega|rfl) only[go_sem,xA,xrA,eB]
  exact hQ ⟨r.a,z,r.t⟩ hB _ _ _ _ _ _ _ _ _ _ _ _ _ _ _ _ _ (by rw[if_pos e]) okB (by omega) xB (fun n h=>by rw[gB n (by omega),gA n (by omega),g0 n h])
 .have ef:jbn (outs.getD b []) v=false:=by cases h:jbn (outs.getD b []) v<;>first | rfl | exact absurd h e
  obtain⟨hB,eB,okB,nB,xB,gB⟩:=jq7 kj (show 1<=rp by omega) (some (.arr [si (r.a:Int),si (r.z:Int)] 65))
  rw[ef]
  simp(disch:=first|omega|rfl) only[go_sem]
  unfold j1d
  simp(disch:=first|omega|rfl) only[go_sem,xj,xrj,eB]
  exact hQ r hB _ _ _ _ _ _ _ _ _ _ _ _ _ _ _ _ _ (by rw[if_neg e]) okB (by omega) xB (fun n h=>by rw[gB n (by omega),g0 n h])
theorem qf3 {h:Hp} {f:Fc} {ins outs:List (List Nat)} (k:NS h f N p ci co ic oc ins outs) (lv:LvOk f N) {b v st:Nat} {x:Ms.Blk} (hb:f.blocks[b]?=some x) (hv:v<f.values.length) (hst:st<=100000) :
 WC F 28 [.s (.ptr p 0),vi b,vi v,vi st] h (fun u h'=>∃ s:Sp,s=qcm x v st (jbn (ins.getD b []) v) (jbn (outs.getD b []) v)/\u=.tup [(true,[si s.a,si s.z]),(false,[.bool s.t])]/\Ok h'/\h.next<=h'.next/\∀ n,n<h.next->h'.get n=h.get n):=by
 refine ja3 (B.none _ (by simp) _ _) ((B.T _).trans qy4) rfl ?_
 unfold qip
 obtain⟨p1,p2,p3,p4,p5,p6⟩:=lv.blk x (f0b hb)
 have hbl:=(f0h.1 hb).1
 have hN:=lv.hN
 have hnv:=lv.nv
 have ok:=k.ok
 have hpos:=ok.pos
 obtain⟨hA,eA,okA,nA,xA,gA⟩:=jde k.ok [.int .i64 0,.int .i64 0] 65
 obtain⟨hB,eB,okB,nB,xB,gB⟩:=jbt okA [.nilSlice,.nilSlice,.nilSlice] (jax x) 42
 obtain⟨hC,eC,okC,nC,xC,gC⟩:=jde okB [.int .i64 0,.int .i64 0] 65
 have hix:=jag (enc:=jax) (size:=3) hb rfl
 have kC:=k.keep okC (by omega) (fun n hn=>by have:=(k.lt n hn).2;rw[gC n (by omega),gB n (by omega),gA n (by omega)])
 have kA:=k.keep okA (by omega) (fun n hn=>gA n (k.lt n hn).2)
 obtain⟨d,hd⟩:∃ c,ic[b]?=some c:=⟨_,f0a (by rw[k.li];exact hbl)⟩
 have hsi:=jhq (c:=ci) (L:=f.blocks.length) (ex:=false) hbl
 have hri:=rdS (l:=ic.map (jb4 N)) (i:=b) (x:=jb4 N d) (ty:=80) (by rw[f0p,hd];rfl)
 have xpA:=kA.xp
 have xpC:=kC.xp
 have xiC:=kC.xi
 have xxC:=(gC _ (by omega)).trans xB
 unfold jax at eB xxC
 have xrC:=(gC _ (by omega)).trans ((gB _ (by omega)).trans xA)
 simp(disch:=first|omega|rfl) only[go_sem,eA,xpA,hix,jax,eB,eC,xpC,xiC,hsi,hri]
 have w1:(st:Int)+1=((st+1:Nat):Int):=by omega
 have hLL:∀ n∈p::ci::co::(ic++oc),n<h.next:=fun n hn=>(k.lt n hn).2
 have g0:∀ n,n<h.next->hC.get n=h.get n:=fun n hn=>by rw[gC n (by omega),gB n (by omega),gA n hn]
 refine WC.imp (qa2 (F:=F) okC (kC.bi b d hd) (v:=v) (by omega) (by omega) (B.none _ (by simp) _ _) (B.T _)) ?_
 rintro _ _ ⟨rfl,rfl⟩
 by_cases e:jbn (ins.getD b []) v=true
 .obtain ⟨hD,eD,okD,nD,xD,gD⟩:=jq7 okC (show 1<=hB.next by omega) (some (.arr [si (st:Int),si ((st+1:Nat):Int)] 65))
  rw[e]
  simp(disch:=first|omega|rfl) only[go_sem,jab,w1,xC,eD]
  have e0:sp0 x v st true=⟨st,st+1,true⟩:=rfl
  refine j1g B (kC.keep okD (by omega) (fun n hn=>gD n (by have:=hLL n hn;omega))) lv hb hv hst (s:=⟨st,st+1,true⟩) (L:=h.next) hLL (by omega) xD ((gD _ (by omega)).trans xrC) ((gD _ (by omega)).trans xxC) (fun r hk x6 x7 x8 x9 x10 x11 x12 x13 x14 x15 x16 x17 x18 x19 x20 x21 x22 hr okk nk xk gk=>?_)
  simp(disch:=first|omega|rfl) only[go_sem,xk]
  refine⟨r,?_,rfl,okk,by omega,fun n hn=>by rw[gk n hn,gD n (by omega),g0 n hn]⟩
  rw[hr];unfold qcm;rw[e0]
 .have ef:jbn (ins.getD b []) v=false:=by cases h:jbn (ins.getD b []) v<;>first | rfl | exact absurd h e
  rw[ef]
  simp(disch:=first|omega|rfl) only[go_sem,xxC]
  refine WC.imp (qqf B okC (l:=x.params) (n:=v) (by omega)) ?_
  rintro _ _ ⟨rfl,rfl⟩
  by_cases ep:v∈x.params
  .obtain ⟨hD,eD,okD,nD,xD,gD⟩:=jq7 okC (show 1<=hB.next by omega) (some (.arr [si (st:Int),si ((st+1:Nat):Int)] 65))
   simp(disch:=first|omega|rfl) only[go_sem,jab,w1,xC,eD,eq_true ep]
   have e0:sp0 x v st false=⟨st,st+1,true⟩:=if_pos (by simp[ep])
   refine j1g B (kC.keep okD (by omega) (fun n hn=>gD n (by have:=hLL n hn;omega))) lv hb hv hst (s:=⟨st,st+1,true⟩) (L:=h.next) hLL (by omega) xD ((gD _ (by omega)).trans xrC) ((gD _ (by omega)).trans xxC) (fun r hk x6 x7 x8 x9 x10 x11 x12 x13 x14 x15 x16 x17 x18 x19 x20 x21 x22 hr okk nk xk gk=>?_)
   simp(disch:=first|omega|rfl) only[go_sem,xk]
   refine⟨r,?_,rfl,okk,by omega,fun n hn=>by rw[gk n hn,gD n (by omega),g0 n hn]⟩
   rw[hr];unfold qcm;rw[e0]
  .simp (disch:=first|omega|rfl) only[go_sem,eq_false ep]
   have e0:sp0 x v st false=⟨0,0,false⟩:=if_neg (by simp[ep])
   refine j1g B kC lv hb hv hst (s:=⟨0,0,false⟩) (L:=h.next) hLL (by omega) xC xrC xxC (fun r hk x6 x7 x8 x9 x10 x11 x12 x13 x14 x15 x16 x17 x18 x19 x20 x21 x22 hr okk nk xk gk=>?_)
   simp(disch:=first|omega|rfl) only[go_sem,xk]
   refine⟨r,?_,rfl,okk,by omega,fun n hn=>by rw[gk n hn,g0 n hn]⟩
   rw[hr];unfold qcm;rw[e0]
end
def jmd (q:Nat×Nat):List SV:=[si q.1,si q.2]
def ESp (row:List SV) (q:Nat×Nat) (ns:List Nat):Prop:=row=jmd q/\ns=[]
theorem qqg:∀ l:List (Nat×Nat),Rows 2 ESp (l.map jmd) l []
 | []=>.nil
 | q::l=>Rows.cons (sz:=2) (E:=ESp) (row:=jmd q) (a:=q) (ns:=[]) rfl ⟨rfl,rfl⟩ (qqg l)
theorem j4k {rows:List (List SV)} {l:List (Nat×Nat)} {ns:List Nat} (k:Rows 2 ESp rows l ns):rows=l.map jmd/\ns=[]:=by
 induction k with
 | nil=>exact⟨rfl,rfl⟩
 | cons _ h _ ih=>obtain⟨rfl,rfl⟩:=h;obtain⟨rfl,rfl⟩:=ih;exact⟨rfl,rfl⟩
abbrev RQ (h:Hp) (x:SV) (l:List (Nat×Nat)) (ns:List Nat):Prop:=Sl h 65 2 false ESp x l ns
theorem RQ.last {h:Hp} {x:SV} {r:List (Nat×Nat)} {ns:List Nat} (k:RQ h x (r++[q]) ns) :
 ∃ b,x=.slice b 0 (r.length+1) (r.length+1) false 2/\ns=[b]/\h.get b=some (.arr ((r.map jmd).flatten++[si q.1,si q.2]) 65)/\((r.map jmd).flatten).length=r.length*2:=by
 rcases k with⟨e,_⟩ | ⟨_,b,rows,nss,rfl,h2,h3,rfl⟩
 .simp at e
 .obtain ⟨rfl,rfl⟩:=j4k h3
  have hl:=(qqg r).len.2
  refine⟨b,by rw[f02];rfl,rfl,?_,hl⟩
  rw[h2,f2l,f18]
  rfl
theorem RQ.mk {h:Hp} {b:Nat} {r:List (Nat×Nat)} (hg:h.get b=some (.arr ((r.map jmd).flatten++[si q.1,si q.2]) 65)):RQ h (.slice b 0 (r.length+1) (r.length+1) false 2) (r++[q]) [b]:=by
 refine .inr ⟨by simp,b,(r++[q]).map jmd,[],by rw[f02];rfl,?_,qqg _,rfl⟩
 rw[hg,f2l,f18]
 rfl
structure OS (hi:Hp) (ob n L:Nat) (rows:List (List (Nat×Nat))) (xs:List SV) (nss:List (List Nat)):Prop where
 xo:hi.get ob=some (.arr xs 63)
 lr:rows.length=n
 lx:xs.length=n
 ln:nss.length=n
 sl:∀ v,v<n->RQ hi (xs.getD v .nilSlice) (rows.getD v []) (nss.getD v [])
 lt:∀ v m,v<n->m∈nss.getD v []->L<=m/\m<hi.next
 dj:∀ v w m,v<n->w<n->m∈nss.getD v []->m∈nss.getD w []->v=w
 bl:1<=ob/\ob<L/\L<=hi.next
theorem OS.keep {hj:Hp} {ob n L:Nat} {rows:List (List (Nat×Nat))} {nss:List (List Nat)} (k:OS hi ob n L rows xs nss) (hn:hi.next<=hj.next) (g:∀ m,m<hi.next->hj.get m=hi.get m):OS hj ob n L rows xs nss:=by
 obtain⟨b1,b2,b3⟩:=k.bl
 exact⟨(g ob (by omega)).trans k.xo,k.lr,k.lx,k.ln,fun v hv=>(k.sl v hv).keep (fun m hm=>g m (k.lt v m hv hm).2),fun v m hv hm=>by have:=k.lt v m hv hm;omega,k.dj,by omega⟩
theorem jhr {α:Type} {l:List α} {i j:Nat} {x d:α} (hi:i<l.length):(l.set i x).getD j d=if i=j then x else l.getD j d:=by
 simp only[f0c,f1s]
 by_cases e:i=j
 .subst e;simp[hi]
 .simp [e]
theorem OS.set {hj:Hp} {ob n L v:Nat} {rows:List (List (Nat×Nat))} {nss:List (List Nat)} (k:OS hi ob n L rows xs nss) (hv:v<n) {x:SV} {l:List (Nat×Nat)} {ns:List Nat}
 (hx:hj.get ob=some (.arr (xs.set v x) 63)) (s:RQ hj x l ns) (hn:hi.next<=hj.next) (new:∀ m∈ns,(m∈nss.getD v []∨hi.next<=m)/\m<hj.next) (g:∀ m,m<hi.next->m≠ob->m∉nss.getD v []->hj.get m=hi.get m) :
 OS hj ob n L (rows.set v l) (xs.set v x) (nss.set v ns):=by
 obtain⟨b1,b2,b3⟩:=k.bl
 have hr:v<rows.length:=by rw[k.lr];exact hv
 have hxl:v<xs.length:=by rw[k.lx];exact hv
 have hnl:v<nss.length:=by rw[k.ln];exact hv
 refine⟨hx,by rw[f1u];exact k.lr,by rw[f1u];exact k.lx,by rw[f1u];exact k.ln,fun w hw=>?_,fun w m hw hm=>?_,fun w u m hw hu hm hm'=>?_,by omega⟩
 .rw [jhr hr,jhr hxl,jhr hnl]
  by_cases e:v=w
  .rw [if_pos e,if_pos e,if_pos e];exact s
  .rw [if_neg e,if_neg e,if_neg e]
   refine(k.sl w hw).keep (fun m hm=>g m (k.lt w m hw hm).2 (by have:=k.lt w m hw hm;omega) (fun h=>e (k.dj v w m hv hw h hm)))
 .rw [jhr hnl] at hm
  by_cases e:v=w
  .rw [if_pos e] at hm
   obtain⟨h1,h2⟩:=new m hm
   rcases h1 with h1 | h1
   .exact ⟨(k.lt v m hv h1).1,h2⟩
   .exact ⟨by omega,h2⟩
  .rw [if_neg e] at hm
   have:=k.lt w m hw hm
   omega
 .rw [jhr hnl] at hm hm'
  have hnew:∀ w,v≠w->w<n->m∈ns->m∈nss.getD w []->False:=fun w e hw h1 h2=>by
   rcases(new m h1).1 with h3 | h3
   .exact e (k.dj v w m hv hw h3 h2)
   .have:=k.lt w m hw h2;omega
  by_cases e:v=w
  .by_cases e2:v=u
   .omega
   .rw [if_pos e] at hm;rw[if_neg e2] at hm'
    exact(hnew u e2 hu hm hm').elim
  .by_cases e2:v=u
   .rw [if_neg e] at hm;rw[if_pos e2] at hm'
    exact(hnew w e hw hm' hm).elim
   .rw [if_neg e] at hm;rw[if_neg e2] at hm'
    exact k.dj w u m hw hu hm hm'
def jcu (bs:List Ms.Blk) (ins outs:List (List Nat)) (n b i:Nat):List (List (Nat×Nat)):=(List.range n).map (fun u=>jg2 bs ins outs u (if u<i then b+1 else b))
section
variable {bs:List Ms.Blk} {ins outs:List (List Nat)} {n b i:Nat}
theorem j54 {u:Nat} (hu:u<n):(jcu bs ins outs n b i).getD u []=jg2 bs ins outs u (if u<i then b+1 else b):=by
 unfold jcu
 rw[f0c,f0p,f3b hu]
 rfl
theorem j55 (hi:i<n) {l:List (Nat×Nat)} (hl:l=jg2 bs ins outs i (b+1)):(jcu bs ins outs n b i).set i l=jcu bs ins outs n b (i+1):=by
 apply f1k
 intro j
 unfold jcu
 rw[f1s,f0p,f0p]
 by_cases e:i=j
 .subst e
  rw[if_pos rfl,if_pos (by simpa using hi),f3b hi,hl]
  show some _=some (jg2 bs ins outs i (if i<i+1 then b+1 else b))
  rw[if_pos (by omega)]
 .rw [if_neg e]
  rcases f0i j n with h | h
  .rw [f3b h]
   show some (jg2 bs ins outs j (if j<i then b+1 else b))=some (jg2 bs ins outs j (if j<i+1 then b+1 else b))
   by_cases h1:j<i
   .rw [if_pos h1,if_pos (by omega)]
   .rw [if_neg h1,if_neg (by omega)]
  .rw [f0j (by simpa using h)]
   rfl
theorem j1h (hi:i<n) (h:jg2 bs ins outs i (b+1)=jg2 bs ins outs i b):jcu bs ins outs n b (i+1)=jcu bs ins outs n b i:=by
 unfold jcu
 apply f3a
 intro u hu
 by_cases e:u=i
 .subst e
  rw[if_pos (by omega),if_neg (by omega),h]
 .by_cases h1:u<i
  .rw [if_pos h1,if_pos (by omega)]
  .rw [if_neg h1,if_neg (by omega)]
theorem j1i:jcu bs ins outs n b n=jcu bs ins outs n (b+1) 0:=by
 unfold jcu
 apply f3a
 intro u hu
 rw[if_pos (f2b.1 hu),if_neg (by omega)]
theorem j1j:jcu bs ins outs n 0 0=List.replicate n []:=by
 unfold jcu
 apply f1k
 intro j
 rw[f0p,f2m]
 rcases f0i j n with h | h
 .rw [f3b h,if_pos h]
  rfl
 .rw [f0j (by simpa using h),if_neg (by omega)]
  rfl
theorem j56:jcu bs ins outs n bs.length 0=jf0 bs ins outs n:=by
 unfold jcu jf0
 apply f3a
 intro u hu
 rw[if_neg (by omega)]
end
structure PJ (hi:Hp) (f:Fc) (N p ci co fx ob n Ln L:Nat) (ic oc:List Nat) (ins outs:List (List Nat)) (rows:List (List (Nat×Nat))) (xs:List SV) (nss:List (List Nat)):Prop where
 ns:NS hi f N p ci co ic oc ins outs
 os:OS hi ob n L rows xs nss
 xf:hi.get fx=some (.arr [jae jal f.values,jae jax f.blocks] 30)
 bn:∀ m∈p::ci::co::(ic++oc),m<Ln
 bl:1<=fx/\fx<Ln/\Ln<=ob
theorem PJ.keep {hj:Hp} {f:Fc} {ob n L:Nat} {ins outs:List (List Nat)} {rows:List (List (Nat×Nat))} {nss:List (List Nat)} (k:PJ hi f N p ci co fx ob n Ln L ic oc ins outs rows xs nss) (ok:Ok hj) (hn:hi.next<=hj.next) (g:∀ m,m<hi.next->hj.get m=hi.get m):PJ hj f N p ci co fx ob n Ln L ic oc ins outs rows xs nss:=by
 obtain⟨c1,c2,c3⟩:=k.bl
 obtain⟨b1,b2,b3⟩:=k.os.bl
 exact⟨k.ns.keep ok hn (fun m hm=>g m (by have:=k.bn m hm;omega)),k.os.keep hn g,(g fx (by omega)).trans k.xf,k.bn,k.bl⟩
theorem jys {f:Fc} (lv:LvOk f N) {b:Nat} (hb:b<f.blocks.length):∃ st,(jan f.blocks)[b]?=some st/\(jan f.blocks).getD b 0=st/\st<=10000:=by
 have key:∀ k,k<=f.blocks.length->∃ st,(jan f.blocks)[k]?=some st/\st<=82*k:=by
  intro k
  induction k with
  | zero=>intro _;exact⟨0,j0q _,by omega⟩
  | succ k ih =>
   intro hk
   obtain⟨st,h1,h2⟩:=ih (by omega)
   obtain⟨x,hx⟩:∃ x,f.blocks[k]?=some x:=⟨_,f0a (by omega)⟩
   obtain⟨m,h3,h4⟩:=jdl hx
   rw[h1] at h3;cases h3
   have:=(lv.blk x (f0b hx)).2.1
   exact⟨_,h4,by omega⟩
 obtain⟨st,h1,h2⟩:=key b (by omega)
 have:=lv.nb
 exact⟨st,h1,by rw[f0c,h1];rfl,by omega⟩
theorem jyt {bs:List Ms.Blk} {ins outs:List (List Nat)} {v k:Nat}:jg2 bs ins outs v (k+1)=jkx (jg2 bs ins outs v k) (jsj bs ins outs v k):=rfl
theorem jv1 {bs:List Ms.Blk} {ins outs:List (List Nat)} {v:Nat}:∀ k,(jg2 bs ins outs v k).length<=k
 | 0=>f0f _
 | k+1=>by
  have ih:=jv1 (bs:=bs) (ins:=ins) (outs:=outs) (v:=v) k
  rw[jyt]
  unfold jkx
  split
  .rcases List.eq_nil_or_concat (jg2 bs ins outs v k) with h | ⟨r,q,e⟩
   .rw [h];simp
   .rw [List.concat_eq_append] at e
    rw[e] at ih ⊢
    have hg:(r++[q]).getLast?=some q:=by simp
    rw[hg]
    simp only[f02,f2g] at ih
    dsimp only
    split
    .simp;omega
    .simp;omega
  .omega
section
variable {F:Fns} (B:SpG F)
include B
theorem qis {f:Fc} {ob L b:Nat} {ins outs:List (List Nat)} (lv:LvOk f N) {blk:Ms.Blk} (hb:f.blocks[b]?=some blk) {x25:AV} {Q:Ex->St->Prop} :
 ∀ (d i:Nat) (_:i+d=f.values.length) {hi:Hp} {xs:List SV} {nss:List (List Nat)} (_:PJ hi f N p ci co fx ob f.values.length Ln L ic oc ins outs (jcu f.blocks ins outs f.values.length b i) xs nss) {x4 x5 x6 x7 x9 x10 x12 x15:AV}
  (hQ:∀ hj xs nss x4 x5 x6 x7 x9 x10 x12 x15,PJ hj f N p ci co fx ob f.values.length Ln L ic oc ins outs (jcu f.blocks ins outs f.values.length b f.values.length) xs nss->hi.next<=hj.next->Q (.exit 2) (.mk [x0,x1,x2,x3,x4,x5,x6,x7,.s (.slice ob 0 f.values.length f.values.length true 1),x9,x10,.s (jae jal (jan f.blocks)),x12,vi b,.s (.ptr p 0),x15,vi f.values.length,vi f.values.length,x18,x19,x20,x21,x22,x23,x24,x25] hj)),
  W F jqr.loop (.mk [x0,x1,x2,x3,x4,x5,x6,x7,.s (.slice ob 0 f.values.length f.values.length true 1),x9,x10,.s (jae jal (jan f.blocks)),x12,vi b,.s (.ptr p 0),x15,vi f.values.length,vi i,x18,x19,x20,x21,x22,x23,x24,x25] hi) Q
 | 0,i,hd,hi,xs,nss,k,x4,x5,x6,x7,x9,x10,x12,x15,hQ=>by
  obtain rfl:i=f.values.length:=by omega
  rw[jai]
  unfold jqr
  simp(disch:=first|omega|rfl) only[go_sem,f0o]
  exact hQ hi _ _ _ _ _ _ _ _ _ _ k (f0f _)
 | d+1,i,hd,hi,xs,nss,k,x4,x5,x6,x7,x9,x10,x12,x15,hQ=>by
  have hil:i<f.values.length:=by omega
  have hlt:(i:Int)<(f.values.length:Int):=by omega
  have hs:(i:Int)+1=((i+1:Nat):Int):=by omega
  have hbl:=(f0h.1 hb).1
  have hnb:=lv.nb
  have hnv:=lv.nv
  obtain⟨st,hst1,hst2,hst3⟩:=jys lv hbl
  have hix:=jag (enc:=jal) (size:=1) hst1 rfl
  rw[jai]
  unfold jqr qcu
  simp(disch:=first|omega|rfl) only[go_sem,jab,eq_true hlt,hix,jal]
  refine WC.imp (qf3 B k.ns lv hb hil (by omega)) ?_
  rintro _ hA ⟨s,es,rfl,okA,nA,gA⟩
  have kA:=k.keep okA nA gA
  have es':s=jsj f.blocks ins outs i b:=by
   rw[es]
   unfold jsj
   rw[hst2,f0c (l:=f.blocks),hb]
   rfl
  clear es
  have erow:jg2 f.blocks ins outs i (b+1)=jkx (jg2 f.blocks ins outs i b) s:=by rw[jyt,es']
  clear es'
  have rl:=jv1 (bs:=f.blocks) (ins:=ins) (outs:=outs) (v:=i) b
  obtain⟨hB,eB,okB,nB,xB,gB⟩:=jbt okA [.int .i64 0,.int .i64 0] [si s.a,si s.z] 65
  have kB:=kA.keep okB (by omega) gB
  obtain⟨b1,b2,b3⟩:=kB.os.bl
  have xo:=kB.os.xo
  have hlx:=kB.os.lx
  have hso:=jhq (c:=ob) (L:=f.values.length) (ex:=true) hil
  have sl0:=kB.os.sl i hil
  rw[j54 hil,if_neg (Nat.lt_irrefl i)] at sl0
  have lt0:=fun m hm=>kB.os.lt i m hil hm
  obtain⟨x,ex⟩:∃ x,xs.getD i .nilSlice=x:=⟨_,rfl⟩
  obtain⟨ns,en⟩:∃ ns,nss.getD i []=ns:=⟨_,rfl⟩
  obtain⟨l,el⟩:∃ l,jg2 f.blocks ins outs i b=l:=⟨_,rfl⟩
  rw[ex,en,el] at sl0
  rw[en] at lt0
  rw[el] at erow rl
  have hgx:xs[i]?=some x:=by rw[←ex,f0c,f0a (by omega)];rfl
  have hrd:=rdS (l:=xs) (i:=i) (x:=x) (ty:=63) hgx
  have again:∀ {hC:Hp} {xs':List SV} {nss':List (List Nat)} {x4 x5 x6 x7 x9 x10 x12 x15:AV},PJ hC f N p ci co fx ob f.values.length Ln L ic oc ins outs (jcu f.blocks ins outs f.values.length b (i+1)) xs' nss'->hi.next<=hC.next ->
   W F jqr.loop (.mk [x0,x1,x2,x3,x4,x5,x6,x7,.s (.slice ob 0 f.values.length f.values.length true 1),x9,x10,.s (jae jal (jan f.blocks)),x12,vi b,.s (.ptr p 0),x15,vi f.values.length,vi ((i+1:Nat):Int),x18,x19,x20,x21,x22,x23,x24,x25] hC) Q:=fun kC nC =>
   qis lv hb d (i+1) (by omega) kC (fun hj xs nss x4 x5 x6 x7 x9 x10 x12 x15 kj nj=>hQ hj xs nss x4 x5 x6 x7 x9 x10 x12 x15 kj (by omega))
  by_cases et:s.t=true
  .rw [et]
   simp(disch:=first|omega|rfl) only[go_sem,eB]
   unfold qct
   have store:∀ {hC:Hp} {y:SV} {ns':List Nat} {l':List (Nat×Nat)},Ok hC->hB.next<=hC.next->RQ hC y l' ns'->l'=jg2 f.blocks ins outs i (b+1)->(∀ m∈ns',(m∈ns∨hB.next<=m)/\m<hC.next)->(∀ m,m<hB.next->m∉ns->hC.get m=hB.get m)->∀ {hD:Hp},Ok hD->hD.next=hC.next->hD.get ob=some (.arr (xs.set i y) 63)->(∀ m,m≠ob->hD.get m=hC.get m) ->
    PJ hD f N p ci co fx ob f.values.length Ln L ic oc ins outs (jcu f.blocks ins outs f.values.length b (i+1)) (xs.set i y) (nss.set i ns'):=by
    intro hC y ns' l' okC nC rq hl' new gC hD okD nD xD gD
    have hob:ob∉ns:=fun h=>by have:=(lt0 ob h).1;omega
    have hsk:∀ m,L<=m->m<hC.next->hD.get m=hC.get m:=fun m h1 h2=>gD m (by omega)
    have os':=kB.os.set (v:=i) hil (hj:=hD) (x:=y) (l:=l') (ns:=ns') xD (rq.keep (fun m hm=>by
     rcases(new m hm).1 with h | h
     .exact gD m (by have:=(lt0 m h).1;omega)
     .exact gD m (by omega))) (by omega) (fun m hm=>⟨by rw[en];exact(new m hm).1,by have:=(new m hm).2;omega⟩) (fun m h1 h2 h3=>by
      rw[en] at h3
      rw[gD m h2,gC m h1 h3])
    rw[j55 hil hl'] at os'
    obtain⟨c1,c2,c3⟩:=kB.bl
    have low:∀ m,m<Ln->hD.get m=hB.get m:=fun m hm=>by
     rw[gD m (by omega),gC m (by omega) (fun h=>by have:=(lt0 m h).1;omega)]
    exact⟨kB.ns.keep okD (by omega) (fun m hm=>low m (kB.bn m hm)),os',(low fx c2).trans kB.xf,kB.bn,kB.bl⟩
   have hfr:∀ m∈ns,1<=m/\m<hB.next:=fun m hm=>by have:=lt0 m hm;omega
   have app:(l.length+1)*16<=1000000000/\l.length+1<=1000000000:=by omega
   obtain⟨h2,e2,ok2,nx2,gt2,_,sl2⟩:=sl0.app1 (bytes:=16) (row:=[si s.a,si s.z]) (a:=(s.a,s.z)) (ms:=[]) okB hfr rfl ⟨rfl,rfl⟩ app.1 app.2
   have sl3:=sl2 (E':=ESp) (fun _ _ _ _ h=>h)
   have xo2:h2.get ob=some (.arr xs 63):=(gt2 ob (by omega) (fun h=>by have:=(lt0 ob h).1;omega)).trans xo
   have hw:jbk i [.slice (hB.next+1) 0 (l.length+1) (l.length+1) false 2] xs=some (xs.set i (.slice (hB.next+1) 0 (l.length+1) (l.length+1) false 2)):=by
    refine(jcy _).2 ⟨by simp;omega,?_⟩
    rw[List.set_eq_take_append_cons_drop,if_pos (by omega)]
    rfl
   obtain⟨h3,e3,ok3,nx3,xo3,gt3⟩:=jq7 ok2 b1 (some (.arr (xs.set i (.slice (hB.next+1) 0 (l.length+1) (l.length+1) false 2)) 63))
   have tl:∀ {m:Nat},m∈ns.tail->False:=fun {m} hm=>by
    rcases sl0 with⟨_,_,rfl⟩ | ⟨_,b',rows,nss',_,_,h3,rfl⟩
    .simp at hm
    .obtain ⟨_,rfl⟩:=j4k h3
     simp at hm
   have fresh:l++[(s.a,s.z)]=jg2 f.blocks ins outs i (b+1)->PJ h3 f N p ci co fx ob f.values.length Ln L ic oc ins outs (jcu f.blocks ins outs f.values.length b (i+1)) (xs.set i (.slice (hB.next+1) 0 (l.length+1) (l.length+1) false 2)) (nss.set i ((hB.next+1)::(ns.tail++[]))):=fun hl =>
    store ok2 (by omega) sl3 hl (fun m hm=>by
     rcases f0e.1 hm with rfl | hm
     .exact ⟨.inr (by omega),by omega⟩
     .rw [f1c] at hm
      exact(tl hm).elim) gt2 ok3 nx3 xo3 gt3
   rcases List.eq_nil_or_concat l with h0 | ⟨r,q,h0⟩
   .rcases sl0 with⟨_,rfl,rfl⟩ | ⟨hne,_⟩
    .subst h0
     have hl:([]:List (Nat×Nat))++[(s.a,s.z)]=jg2 f.blocks ins outs i (b+1):=by
      rw[erow];unfold jkx;rw[if_pos et];rfl
     have kf:=fresh hl
     simp(disch:=first|omega|rfl) only[go_sem,jab,xo,hso,hrd]
     unfold j1f
     simp(disch:=first|omega|rfl) only[go_sem,jab,xB,e2,hso,xo2,hw,e3,hs]
     exact again kf (by omega)
    .exact absurd h0 hne
   .rw [List.concat_eq_append] at h0
    subst h0
    obtain⟨c,rfl,rfl,hc,hcl⟩:=RQ.last sl0
    have hcn:=lt0 c (by simp)
    have lenE:((r++[q]).length:Nat)=r.length+1:=by simp
    have hk0:((r.length+1:Nat):Int) - 1=(r.length:Int):=by omega
    have hge:(0:Int)<=(r.length:Int):=by omega
    have hixl:=jbf (size:=2) (b:=c) (off:=0) (len:=r.length+1) (mc:=r.length+1) (sz:=2) (ex:=false) (m:=r.length) (by omega)
    have hrc:rdB (some (.arr ((r.map jmd).flatten++[si (q.1:Int),si (q.2:Int)]) 65)) (r.length*2+1) 1=some [si q.2]:=by
     apply jr7
     rw[f0u (by omega),hcl,show r.length*2+1 - r.length*2=1 by omega]
     rfl
    rw[f0z] at hixl
    by_cases e:q.2=s.a
    .have c1:((q.2:Int)=(s.a:Int))=True:=eq_true (by omega)
     have hl:r++[(q.1,s.z)]=jg2 f.blocks ins outs i (b+1):=by
      rw[erow];unfold jkx;rw[if_pos et,show(r++[q]).getLast?=some q by simp,show(r++[q]).dropLast=r by simp]
      dsimp only
      rw[if_pos e]
     have hwc:jbk (r.length*2+1) [si (s.z:Int)] ((r.map jmd).flatten++[si (q.1:Int),si (q.2:Int)])=some ((r.map jmd).flatten++[si (q.1:Int),si (s.z:Int)]):=by
      refine(jcy _).2 ⟨by simp only[f02,hcl];simp,?_⟩
      rw[List.take_append,List.drop_append,hcl,show r.length*2+1 - r.length*2=1 by omega,f2q (by omega),f3c (by omega)]
      have e2:r.length*2+1+1 - r.length*2=2:=by omega
      simp[e2]
     obtain⟨h4,e4,ok4,nx4,xc4,gt4⟩:=jq7 okB (show 1<=c by omega) (some (.arr ((r.map jmd).flatten++[si (q.1:Int),si (s.z:Int)]) 65))
     have xo4:h4.get ob=some (.arr xs 63):=(gt4 ob (by omega)).trans xo
     have eset:xs.set i (.slice c 0 (r.length+1) (r.length+1) false 2)=xs:=by
      apply f1k
      intro j
      rw[f1s]
      by_cases ej:i=j
      .subst ej;rw[if_pos rfl,if_pos (by omega),hgx]
      .rw [if_neg ej]
     have kf:=store (hC:=h4) (y:=.slice c 0 (r.length+1) (r.length+1) false 2) (ns':=[c]) (l':=r++[(q.1,s.z)]) ok4 (by omega) (RQ.mk xc4) hl (fun m hm=>⟨.inl hm,by obtain rfl:=f0k.1 hm;omega⟩) (fun m h1 h2=>gt4 m (fun h=>h2 (by simp[h]))) (hD:=h4) ok4 rfl (by rw[eset];exact xo4) (fun _ _=>rfl)
     simp(disch:=first|omega|rfl) only[go_sem,jab,xo,hso,hrd,hk0,eq_true hge,hixl,hc,hrc,xB,c1,hwc,e4,hs]
     exact again kf (by omega)
    .have c1:((q.2:Int)=(s.a:Int))=False:=eq_false (by omega)
     have hl:(r++[q])++[(s.a,s.z)]=jg2 f.blocks ins outs i (b+1):=by
      rw[erow];unfold jkx;rw[if_pos et,show(r++[q]).getLast?=some q by simp]
      dsimp only
      rw[if_neg e]
     have kf:=fresh hl
     rw[lenE] at e2 hw e3 kf
     simp(disch:=first|omega|rfl) only[go_sem,jab,xo,hso,hrd,hk0,eq_true hge,hixl,hc,hrc,xB,c1]
     unfold j1f
     simp(disch:=first|omega|rfl) only[go_sem,jab,xB,e2,hso,xo2,hw,e3,hs]
     exact again kf (by omega)
  .have ef:s.t=false:=by cases h:s.t<;>first | rfl | exact absurd h et
   have h0:jg2 f.blocks ins outs i (b+1)=jg2 f.blocks ins outs i b:=by
    rw[erow,el];unfold jkx;rw[if_neg et]
   rw[←j1h hil h0] at kB
   rw[ef]
   simp(disch:=first|omega|rfl) only[go_sem,jab,eB,hs]
   exact again kB (by omega)
end
section
variable {F:Fns} (B:SpG F)
include B
theorem qit {f:Fc} {ob L:Nat} {ins outs:List (List Nat)} (lv:LvOk f N) {Q:Ex->St->Prop} :
 ∀ (d b:Nat) (_:b+d=f.blocks.length) {hi:Hp} {xs:List SV} {nss:List (List Nat)} (_:PJ hi f N p ci co fx ob f.values.length Ln L ic oc ins outs (jcu f.blocks ins outs f.values.length b 0) xs nss) {x4 x5 x6 x7 x9 x10 x12 x13 x15 x16 x17 x18:AV}
  (hQ:∀ hj xs nss x4 x5 x6 x7 x9 x10 x12 x13 x15 x16 x17 x18,PJ hj f N p ci co fx ob f.values.length Ln L ic oc ins outs (jcu f.blocks ins outs f.values.length f.blocks.length 0) xs nss->Q (.exit 0) (.mk [x0,x1,x2,x3,x4,x5,x6,x7,.s (.slice ob 0 f.values.length f.values.length true 1),x9,x10,.s (jae jal (jan f.blocks)),x12,x13,.s (.ptr p 0),x15,x16,x17,x18,vi f.blocks.length,vi f.blocks.length,x21,x22,x23,x24,.s (.ptr fx 0)] hj)),
  W F jv0.loop (.mk [x0,x1,x2,x3,x4,x5,x6,x7,.s (.slice ob 0 f.values.length f.values.length true 1),x9,x10,.s (jae jal (jan f.blocks)),x12,x13,.s (.ptr p 0),x15,x16,x17,x18,vi f.blocks.length,vi b,x21,x22,x23,x24,.s (.ptr fx 0)] hi) Q
 | 0,b,hd,hi,xs,nss,k,x4,x5,x6,x7,x9,x10,x12,x13,x15,x16,x17,x18,hQ=>by
  obtain rfl:b=f.blocks.length:=by omega
  rw[jai]
  unfold jv0
  simp(disch:=first|omega|rfl) only[go_sem,f0o]
  exact hQ hi _ _ _ _ _ _ _ _ _ _ _ _ _ _ k
 | d+1,b,hd,hi,xs,nss,k,x4,x5,x6,x7,x9,x10,x12,x13,x15,x16,x17,x18,hQ=>by
  have hbl:b<f.blocks.length:=by omega
  have hlt:(b:Int)<(f.blocks.length:Int):=by omega
  have hs:(b:Int)+1=((b+1:Nat):Int):=by omega
  have hnb:=lv.nb
  obtain⟨blk,hb⟩:∃ u,f.blocks[b]?=some u:=⟨_,f0a hbl⟩
  have xf:=k.xf
  have lv1:=jaf (enc:=jal) (l:=f.values)
  rw[jai]
  unfold jv0 qcv
  simp(disch:=first|omega|rfl) only[go_sem,jab,eq_true hlt,xf,lv1]
  refine qis B lv hb f.values.length 0 (by omega) k (fun hj xs nss x4 x5 x6 x7 x9 x10 x12 x15 kj nj=>?_)
  simp(disch:=first|omega|rfl) only[go_sem,jab,hs]
  rw[j1i] at kj
  exact qit lv d (b+1) (by omega) kj hQ
end
def jqs (l:List (Nat×Nat)):List SV:=[jae jmd l]
def ERw (h:Hp) (row:List SV) (l:List (Nat×Nat)) (ns:List Nat):Prop:=∃ x,row=[x]/\RQ h x l ns
theorem qcx {h:Hp}:∀ (rows:List (List (Nat×Nat))) (xs:List SV) (nss:List (List Nat)),xs.length=rows.length->nss.length=rows.length->(∀ v,v<rows.length->RQ h (xs.getD v .nilSlice) (rows.getD v []) (nss.getD v []))->Rows 1 (ERw h) (xs.map (fun x=>[x])) rows nss.flatten
 | [],[],[],_,_,_=>.nil
 | l::rows,x::xs,ns::nss,h1,h2,h3=>by
  simp only[f1d] at h1 h2
  have h0:=h3 0 (by simp)
  rw[f2u,f1j]
  refine Rows.cons rfl ⟨x,rfl,h0⟩ (qcx rows xs nss (by omega) (by omega) (fun v hv=>?_))
  have:=h3 (v+1) (by simp only[f1d];omega)
  simpa using this
 | [],_::_,_,h1,_,_=>by simp at h1
 | [],[],_::_,_,h2,_=>by simp at h2
 | _::_,[],_,h1,_,_=>by simp at h1
 | _::_,_::_,[],_,h2,_=>by simp at h2
theorem qu6:∀ xs:List SV,(xs.map (fun x=>[x])).flatten=xs
 | []=>rfl
 | x::xs=>by rw[f2u,f1j,qu6 xs];rfl
theorem OS.frz {ob n L:Nat} {rows:List (List (Nat×Nat))} {nss:List (List Nat)} (k:OS hi ob n L rows xs nss) (hn:rows≠[]):jg3 true hi 3 (.slice ob 0 n n true 1)=some (jae jqs rows):=by
 have lr:=k.lr
 have r:=qcx (h:=hi) rows xs nss (by rw[k.lx,lr]) (by rw[k.ln,lr]) (fun v hv=>k.sl v (by omega))
 have s:Sl hi 63 1 true (ERw hi) (.slice ob 0 rows.length rows.length true 1) rows (ob::nss.flatten):=.inr ⟨hn,ob,_,_,rfl,by rw[qu6];exact k.xo,r,rfl⟩
 rw[lr] at s
 refine s.frz (enc:=jqs) (d:=2) (fun row a ms e=>?_) (fun _=>rfl)
 obtain⟨x,rfl,rq⟩:=e
 exact jh7 (rq.frz (enc:=jmd) (d:=1) (fun row a ms e=>by obtain⟨rfl,_⟩:=e;rfl) (fun _=>rfl))
structure SpC (F:Fns):Prop where
 g:SpG F
 sps:∀ vs h,jb9 F 15 vs h=none
 cmp:∀ {h:Hp} {f:Fc} {N:Nat} {ord:List Nat},Ok h->LvOk f N->f.blocks≠[]->ord≠[]->ord.length<=1000->(∀ q∈ord,q<f.blocks.length)->WC F 26 [.agg [jae jal f.values,jae jax f.blocks],.s (jae jal ord)] h (qyt h f N ord)
 dmr:∀ {h:Hp} {m:Nat×Nat} {f:Fc} {s:List Bool} {Q:AV->Hp->Prop},FlOk m f s->(2<=m.1/\m.1<=10)->(2<=m.2/\m.2<=10)->WC F 12 [.agg [jae jal f.values,jae jax f.blocks],.agg [si m.1,si m.2]] h Q=Q (j52 s) h
 str:∀ {h:Hp} {f:Fc} {Q:AV->Hp->Prop},f.blocks.length<=10000->(∀ b∈f.blocks,b.instrs.length<=10000)->WC F 16 [.agg [jae jal f.values,jae jax f.blocks]] h Q=Q (.s (jae jal (jan f.blocks))) h
def qcy (bs:List Ms.Blk) (ins outs:List (List Nat)) (n:Nat):AV:=.tup [(false,[jae jqs (jf0 bs ins outs n)]),(false,[si 0])]
theorem qcz {F:Fns} (C:SpC F) {h:Hp} (ok:Ok h) {m:Nat×Nat} {f:Fc} {s:List Bool} (o:FlOk m f s) (m1:2<=m.1/\m.1<=10) (m2:2<=m.2/\m.2<=10) :
 WC F 15 [.agg [jae jal f.values,jae jax f.blocks],.agg [si m.1,si m.2]] h (fun v h'=>∃ ins outs,JJ f.values.length ((f.values.length+63) / 64) f.blocks ins outs/\(∀ q,q<f.blocks.length->FxB f.blocks ins outs q)/\∃ d,jf2 true h' d v=some (qcy f.blocks ins outs f.values.length)):=by
 obtain⟨h1o,h2o,h3o,h4o⟩:=qik o.hs
 have hlen:=o.len
 have lv:=qqc o.k o.hv
 obtain⟨N,eN⟩:∃ N,(f.values.length+63) / 64=N:=⟨_,rfl⟩
 rw[eN] at lv ⊢
 refine ja3 (C.sps _ _) ((C.g.T _).trans qy5) rfl ?_
 unfold qiq
 have hpos:=ok.pos
 have hnv:=lv.nv
 have hnb:=lv.nb
 obtain⟨hA,eA,okA,nA,xA,gA⟩:=jde ok [jae jal f.values,jae jax f.blocks] 30
 obtain⟨hB,eB,okB,nB,xB,gB⟩:=jde okA [si m.1,si m.2] 25
 have yA:=(gB _ (by omega)).trans xA
 obtain⟨hC,eC,okC,nC,xC,gC⟩:=jbt okB [.nilSlice,.nilSlice,.nilSlice] [jae jal (jkk s 0),jae jjd (jeb s),jae jal (qh2 s)] 36
 have zA:=(gC _ (by omega)).trans yA
 simp(disch:=first|omega|rfl) only[go_sem,eA,eB,yA,xB,C.dmr o m1 m2,j52,j04,eC]
 unfold qcw
 simp(disch:=first|omega|rfl) only[go_sem,zA,xC]
 refine WC.imp (C.cmp okC lv o.hne h1o (by omega) (fun q hq=>by have:=h3o q hq;omega)) ?_
 rintro _ hE ⟨p,ci,co,ic,oc,ins,outs,rfl,ns,jj,fx,nE,gE⟩
 have okE:=ns.ok
 have wA:=(gE _ (by omega)).trans zA
 have lv1:=jaf (enc:=jal) (l:=f.values)
 have lb:=jaf (enc:=jax) (l:=f.blocks)
 have hst:=fun {h:Hp} {Q:AV->Hp->Prop}=>C.str (h:=h) (f:=f) (Q:=Q) (by omega) (fun b hb=>by have:=(lv.blk b hb).2.1;omega)
 obtain⟨hF,eF,okF,nF,xF,gF⟩:=jde okE (rep [.nilSlice] f.values.length) 63
 have hmk:=jpg (e:=63) (size:=1) (bytes:=24) (z:=[.nilSlice]) (m:=f.values.length) okE (by omega) (by omega)
 rw[eF] at hmk
 have vA:=(gF _ (by omega)).trans wA
 simp(disch:=first|omega|rfl) only[go_sem,jab,wA,hst,lv1,hmk,vA,lb]
 have hrep:rep [SV.nilSlice] f.values.length=List.replicate f.values.length .nilSlice:=by
  rw[qly]
  generalize f.values.length=n
  induction n with
  | zero=>rfl
  | succ n ih=>rw[List.replicate_succ,f1j,ih];rfl
 rw[hrep] at xF
 have gr:∀ {α:Type} {n v:Nat} {x d:α},v<n->(List.replicate n x).getD v d=x:=fun {α n v x d} hv=>by
  rw[f0c,f2m,if_pos hv];rfl
 have os0:OS hF hE.next f.values.length hF.next (jcu f.blocks ins outs f.values.length 0 0) (List.replicate f.values.length .nilSlice) (List.replicate f.values.length []):=by
  rw[j1j]
  refine⟨xF,by simp,by simp,by simp,fun v hv=>?_,fun v m hv hm=>?_,fun v w m hv hw hm hm'=>?_,by omega⟩
  .rw [gr hv,gr hv,gr hv];exact Sl.nil
  .rw [gr hv] at hm;simp at hm
  .rw [gr hv] at hm;simp at hm
 have k0:PJ hF f N p ci co h.next hE.next f.values.length hE.next hF.next ic oc ins outs (jcu f.blocks ins outs f.values.length 0 0) (List.replicate f.values.length .nilSlice) (List.replicate f.values.length []) :=
  ⟨ns.keep okF (by omega) (fun n hn=>gF n (ns.lt n hn).2),os0,vA,fun m hm=>(ns.lt m hm).2,by omega⟩
 refine qit C.g lv f.blocks.length 0 (by omega) k0 (fun hj xs nss x4 x5 x6 x7 x9 x10 x12 x13 x15 x16 x17 x18 kj=>?_)
 simp(disch:=first|omega|rfl) only[go_sem]
 refine⟨ins,outs,jj,fun q hq=>fx q (h4o q (by omega)),3,?_⟩
 have os1:=kj.os
 rw[j56] at os1
 have hne:jf0 f.blocks ins outs f.values.length≠[]:=by
  have:=f1g.2 o.hv
  rw[←f1g]
  unfold jf0
  simpa using this
 have e1:=os1.frz hne
 show ob (ob (jg5 (jg3 true hj 3) [.slice hE.next 0 f.values.length f.values.length true 1]) (fun x=>ob (qc8 (jg3 true hj 3) [(false,[.int .i64 0])]) (fun r=>some ((false,x)::r)))) (fun y=>some (AV.tup y))=_
 rw[jh7 e1]
 rfl
theorem qu7 {F:Fns} {f:FuncId} {vs:List AV} {h:Hp} {Q:AV->Hp->Prop} (hT:jqt F f=none) (k:WC F f vs h Q):∃ v h',jb9 F f vs h=some (v,h')/\Q v h':=by
 obtain⟨n,v,h',h1,h2⟩:=k
 refine⟨v,h',?_,h2⟩
 cases F with
 | mk T X =>
  have h3:Option.rec (motive:=fun _=>R) (ob (T f) _) (fun r=>some r) (X f vs h)=some (v,h'):=h1
  have h4:T f=none:=hT
  rw[h4] at h3
  show X f vs h=some (v,h')
  cases e:X f vs h with
  | none=>rw[e] at h3;cases h3
  | some r=>rw[e] at h3;exact h3
theorem qu8:T 26=none:=by kernel_rfl
theorem qy6:SpC FL2 where
 g:=⟨fun f hf vs h=>by
  simp only[f0e,f0t,or_false] at hf
  rcases hf with rfl | rfl | rfl | rfl<;>exact(ja0 rfl).trans ((jdd rfl).trans ((jdd rfl).trans ((ja0 rfl).trans (jm2 rfl)))),fun f=>rfl⟩
 sps:=fun vs h=>(ja0 rfl).trans ((jdd rfl).trans ((jdd rfl).trans ((ja0 rfl).trans (jm2 rfl))))
 cmp:=fun ok lv h1 h2 h3 h4=>by
  obtain⟨v,h',h5,h6⟩:=qu7 (F:=FLB) (f:=26) qu8 (jqo ok lv h1 h2 h3 h4)
  exact jw5 ((ja0 rfl).trans ((jdd rfl).trans h5)) h6
 dmr:=fun o m1 m2=>jap ((ja0 rfl).trans ((jdd rfl).trans ((jdd rfl).trans ((ja0 rfl).trans (jba rfl (by simp only[jaq,jav,ja5,jbr,jaw,ja6,ja4,jbi,ja7,jbc,if_true]) (qcb jda o m1 m2))))))
 str:=fun h1 h2=>jap ((ja0 rfl).trans ((jdd rfl).trans ((jdd rfl).trans ((ja0 rfl).trans ((qfv rfl rfl rfl rfl rfl rfl rfl rfl rfl).trans (jxv h1 h2))))))
def SL3 (f:FuncId):Bool:=Nat.beq f 15
noncomputable def FL4:Fns:=PX SL3 FL2
theorem qy7 {A:Nat->Int}:Env Try.prog A tys FL4:=je4 qy0
end Go.Proofs.Ytehhjbfmjdlcjaa.Ev
