/- Code of functions as the interpreter has it prepared, cut at loops. -/
import Derived.Test.YtehhjbfmjdlcjaaUi
import Derived.Test.YtehhjbfmjdlcjaaSl
namespace Go.Proofs.Ytehhjbfmjdlcjaa.Ev
open Go Go.RowKit
set_option linter.all false
set_option maxRecDepth 100000
def j89:IC:=(.seq (.block 1 (.region [(qP (.mv (.g 2))),(qP (.bin .mul (.l 0) (qC 8))),(qQ 2 (.mv (.l 0)))])) (.region [(qP (.bin .add (.g 5) (qC 1))),(qQ 5 (.mv (.l 0)))]))
def ju0:IC:=(.seq (.region [(qQ 3 (.bin .lt (.g 5) (.g 4)))]) (.seq (.cond (.g 3) .skip (.exit 0)) j89))
def qd7:IC:=(.seq (.region [(qQ 1 (.mv (qC 0)))]) (.seq (.region [(qQ 2 (.mv (qC 1)))]) (.seq (.seq (.region [(qP (.mv (.g 0))),(qQ 4 (.mm false (.l 0) (qC 4))),(qQ 5 (.mv (qC 0)))]) (.block 0 (.loop ju0))) (.seq (.region [(qP (.mv (.g 2))),(qQ 1 (.mv (.l 0)))]) .ret))))
theorem qsw:T 23=some (.mk qd7 1 5 [(.tmp 1)]):=by kernel_rfl
def j9a:IC:=(.seq (.block 3 (.seq (.region [(qP (.ixs 1 (.g 27) (.g 30))),(qA (.load 1 false (.l 0))),(qQ 25 (.mv (.l 0)))]) (.region [(qP (.mv (.g 26))),(qP (.mv (.g 25))),(qP (.ixs 1 (.l 1) (.l 0))),(qA (.load 1 false (.l 0))),(qP (.mv (.g 24))),(qP (.bin .add (.l 1) (.l 0))),(qP (.ixs 1 (.l 5) (.l 4))),(qA (.store 1 (.l 0) (.l 1)))]))) (.region [(qP (.bin .add (.g 30) (qC 1))),(qQ 30 (.mv (.l 0)))]))
def ju1:IC:=(.seq (.region [(qQ 28 (.bin .lt (.g 30) (.g 29)))]) (.seq (.cond (.g 28) .skip (.exit 2)) j9a))
def j9b:IC:=(.seq (.block 7 (.seq (.region [(qP (.ixs 5 (.g 15) (.g 18))),(qA (.load 5 true (.l 0))),(qB 14 (.new 48 [(.int .i64 0),(.int .i64 0),(.bool false),(.int .i64 0),(.int .i64 0)])),(qA (.store 5 (.l 0) (.l 1)))]) (.region [(qP (.mv (.g 26))),(qP (.fld 1 (.g 14))),(qA (.load 1 false (.l 0))),(qP (.ixs 1 (.l 2) (.l 0))),(qA (.load 1 false (.l 0))),(qP (.mv (.g 24))),(qP (.bin .add (.l 1) (.l 0))),(qP (.ixs 1 (.l 6) (.l 4))),(qA (.store 1 (.l 0) (.l 1)))]))) (.region [(qP (.bin .add (.g 18) (qC 1))),(qQ 18 (.mv (.l 0)))]))
def ju2:IC:=(.seq (.region [(qQ 16 (.bin .lt (.g 18) (.g 17)))]) (.seq (.cond (.g 16) .skip (.exit 6)) j9b))
def j9c:IC:=(.seq (.block 5 (.seq (.region [(qP (.ixs 3 (.g 20) (.g 23))),(qA (.load 3 true (.l 0))),(qB 19 (.new 46 [(.int .i64 0),.nilSlice,.nilSlice])),(qA (.store 3 (.l 0) (.l 1)))]) (.seq (.region [(qP (.fld 1 (.g 19))),(qB 15 (.load 1 false (.l 0))),(qQ 17 (.len (.l 0))),(qQ 18 (.mv (qC 0)))]) (.block 6 (.loop ju2))))) (.region [(qP (.bin .add (.g 23) (qC 1))),(qQ 23 (.mv (.l 0)))]))
def ju3:IC:=(.seq (.region [(qQ 21 (.bin .lt (.g 23) (.g 22)))]) (.seq (.cond (.g 21) .skip (.exit 4)) j9c))
def j9d:IC:=(.seq (.block 11 (.seq (.region [(qP (.ixs 1 (.g 5) (.g 8))),(qA (.load 1 false (.l 0))),(qQ 4 (.mv (.l 0)))]) (.region [(qP (.mv (.g 26))),(qP (.mv (.g 4))),(qP (.ixs 1 (.l 1) (.l 0))),(qA (.load 1 false (.l 0))),(qP (.mv (.g 24))),(qP (.bin .add (.l 1) (.l 0))),(qP (.ixs 1 (.l 5) (.l 4))),(qA (.store 1 (.l 0) (.l 1)))]))) (.region [(qP (.bin .add (.g 8) (qC 1))),(qQ 8 (.mv (.l 0)))]))
def ju4:IC:=(.seq (.region [(qQ 6 (.bin .lt (.g 8) (.g 7)))]) (.seq (.cond (.g 6) .skip (.exit 10)) j9d))
def j9e:IC:=(.seq (.block 9 (.seq (.region [(qP (.ixs 2 (.g 10) (.g 13))),(qA (.load 2 true (.l 0))),(qB 9 (.new 56 [(.int .i64 0),.nilSlice])),(qA (.store 2 (.l 0) (.l 1)))]) (.seq (.region [(qP (.fld 1 (.g 9))),(qB 5 (.load 1 false (.l 0))),(qQ 7 (.len (.l 0))),(qQ 8 (.mv (qC 0)))]) (.block 10 (.loop ju4))))) (.region [(qP (.bin .add (.g 13) (qC 1))),(qQ 13 (.mv (.l 0)))]))
def ju5:IC:=(.seq (.region [(qQ 11 (.bin .lt (.g 13) (.g 12)))]) (.seq (.cond (.g 11) .skip (.exit 8)) j9e))
def j9f:IC:=(.seq (.block 1 (.seq (.region [(qP (.mv (.g 37))),(qP (.ixs 3 (.g 34) (.g 37))),(qA (.load 3 true (.l 0))),(qB 31 (.new 42 [.nilSlice,.nilSlice,.nilSlice])),(qQ 32 (.mv (.l 3))),(qA (.store 3 (.l 1) (.l 2)))]) (.seq (.region [(qP (.fld 2 (.g 33))),(qA (.load 1 false (.l 0))),(qP (.mv (.g 32))),(qP (.ixs 1 (.l 1) (.l 0))),(qA (.load 1 false (.l 0))),(qA (.call 23 [(.l 0)])),(qQ 24 (.mv (.l 0)))]) (.seq (.seq (.region [(qP (.fld 0 (.g 31))),(qB 27 (.load 1 false (.l 0))),(qQ 29 (.len (.l 0))),(qQ 30 (.mv (qC 0)))]) (.block 2 (.loop ju1))) (.seq (.seq (.region [(qP (.fld 1 (.g 31))),(qB 20 (.load 1 false (.l 0))),(qQ 22 (.len (.l 0))),(qQ 23 (.mv (qC 0)))]) (.block 4 (.loop ju3))) (.seq (.region [(qP (.fld 2 (.g 31))),(qB 10 (.load 1 false (.l 0))),(qQ 12 (.len (.l 0))),(qQ 13 (.mv (qC 0)))]) (.block 8 (.loop ju5)))))))) (.region [(qP (.bin .add (.g 37) (qC 1))),(qQ 37 (.mv (.l 0)))]))
def ju6:IC:=(.seq (.region [(qQ 35 (.bin .lt (.g 37) (.g 36)))]) (.seq (.cond (.g 35) .skip (.exit 0)) j9f))
def j9g:IC:=(.seq (.region [(qP (.fld 0 (.g 41))),(qA (.load 1 false (.l 0))),(qP (.len (.l 0))),(qA (.mkslice 3 1 8 [(.int .i64 0)] (.l 0) (.l 0))),(qQ 26 (.mv (.l 0)))]) (.seq (.seq (.region [(qP (.fld 1 (.g 41))),(qB 34 (.load 1 false (.l 0))),(qQ 36 (.len (.l 0))),(qQ 37 (.mv (qC 0)))]) (.block 0 (.loop ju6))) (.seq (.region [(qP (.mv (.g 26))),(qQ 3 (.mv (.l 0))),(qQ 2 (.mv (qC 0)))]) .ret)))
def qd8:IC:=(.seq (.region [(qB 41 (.box 30 (.g 0))),(qB 40 (.box 25 (.g 1))),(qQ 3 (.mv (.c (.s .nilSlice)))),(qQ 2 (.mv (qC 0)))]) (.seq (.region [(qA (.load 2 true (.g 41))),(qA (.load 2 true (.g 40))),(qA (.call 12 [(.l 1),(.l 0)])),(qP (.mv (.l 0))),(qP (.ext 0 (.l 0))),(qP (.ext 1 (.l 1))),(qB 33 (.new 36 [.nilSlice,.nilSlice,.nilSlice])),(qA (.store 3 (.l 0) (.l 2))),(qQ 39 (.mv (.l 2)))]) (.seq (.seq (.region [(qP (.mv (.g 39))),(qQ 38 (.bin .ne (.l 0) (qC 0)))]) (.cond (.g 38) (.seq (.region [(qP (.mv (.g 39))),(qQ 3 (.mv (.c (.s .nilSlice)))),(qQ 2 (.mv (.l 1)))]) .ret) .skip)) j9g)))
theorem qsx:T 11=some (.mk qd8 2 40 [(.tmp 3),(.tmp 2)]):=by kernel_rfl
def j9h:IC:=(.seq (.block 3 (.region [(qP (.mv (.g 16))),(qP (.bin .mul (qC 8) (.l 0))),(qQ 16 (.mv (.l 0)))])) (.region [(qP (.mv (.g 19))),(qP (.bin .add (.l 0) (qC 1))),(qQ 19 (.mv (.l 0)))]))
def ju7:IC:=(.seq (.seq (.region [(qP (.mv (.g 19))),(qP (.fld 2 (.g 25))),(qA (.load 1 false (.l 0))),(qP (.mv (.g 18))),(qP (.ixs 1 (.l 1) (.l 0))),(qA (.load 1 false (.l 0))),(qP (.bin .lt (.l 5) (.l 0))),(qP (.mv (.l 0))),(qR 0 true (.mv (.g 19))),(qR 1 true (.bin .lt (.l 0) (qC 4))),(qQ 17 (.pick (.l 2) (.l 0) (.c (.s (.bool false)))))]) (.cond (.g 17) .skip (.exit 2))) j9h)
def j9i:IC:=(.seq (.block 7 (.seq (.region [(qP (.ixs 5 (.g 6) (.g 9))),(qA (.load 5 true (.l 0))),(qB 5 (.new 48 [(.int .i64 0),(.int .i64 0),(.bool false),(.int .i64 0),(.int .i64 0)])),(qA (.store 5 (.l 0) (.l 1)))]) (.seq (.region [(qP (.mv (.g 26))),(qP (.fld 1 (.g 5))),(qA (.load 1 false (.l 0))),(qP (.ixs 1 (.l 2) (.l 0))),(qA (.load 1 false (.l 0))),(qP (.mv (.g 16))),(qQ 4 (.bin .lt (.l 1) (.l 0)))]) (.cond (.g 4) (.seq (.region [(qQ 3 (.mv (.c (.s (.bool false)))))]) .ret) .skip)))) (.region [(qP (.bin .add (.g 9) (qC 1))),(qQ 9 (.mv (.l 0)))]))
def ju8:IC:=(.seq (.region [(qQ 7 (.bin .lt (.g 9) (.g 8)))]) (.seq (.cond (.g 7) .skip (.exit 6)) j9i))
def j9j:IC:=(.seq (.block 5 (.seq (.region [(qP (.ixs 3 (.g 11) (.g 14))),(qA (.load 3 true (.l 0))),(qB 10 (.new 46 [(.int .i64 0),.nilSlice,.nilSlice])),(qA (.store 3 (.l 0) (.l 1)))]) (.seq (.region [(qP (.fld 1 (.g 10))),(qB 6 (.load 1 false (.l 0))),(qQ 8 (.len (.l 0))),(qQ 9 (.mv (qC 0)))]) (.block 6 (.loop ju8))))) (.region [(qP (.bin .add (.g 14) (qC 1))),(qQ 14 (.mv (.l 0)))]))
def ju9:IC:=(.seq (.region [(qQ 12 (.bin .lt (.g 14) (.g 13)))]) (.seq (.cond (.g 12) .skip (.exit 4)) j9j))
def j9k:IC:=(.seq (.block 1 (.seq (.region [(qP (.mv (.g 23))),(qP (.ixs 3 (.g 20) (.g 23))),(qA (.load 3 true (.l 0))),(qB 15 (.new 42 [.nilSlice,.nilSlice,.nilSlice])),(qQ 18 (.mv (.l 3))),(qA (.store 3 (.l 1) (.l 2)))]) (.seq (.region [(qQ 16 (.mv (qC 1)))]) (.seq (.seq (.region [(qQ 19 (.mv (qC 0)))]) (.block 2 (.loop ju7))) (.seq (.region [(qP (.fld 1 (.g 15))),(qB 11 (.load 1 false (.l 0))),(qQ 13 (.len (.l 0))),(qQ 14 (.mv (qC 0)))]) (.block 4 (.loop ju9))))))) (.region [(qP (.bin .add (.g 23) (qC 1))),(qQ 23 (.mv (.l 0)))]))
def jva:IC:=(.seq (.region [(qQ 21 (.bin .lt (.g 23) (.g 22)))]) (.seq (.cond (.g 21) .skip (.exit 0)) j9k))
def j9l:IC:=(.seq (.seq (.region [(qP (.fld 1 (.g 29))),(qB 20 (.load 1 false (.l 0))),(qQ 22 (.len (.l 0))),(qQ 23 (.mv (qC 0)))]) (.block 0 (.loop jva))) (.seq (.region [(qQ 3 (.mv (.c (.s (.bool true)))))]) .ret))
def qd9:IC:=(.seq (.region [(qQ 3 (.mv (.c (.s (.bool false)))))]) (.seq (.region [(qP (.mv (.g 0))),(qP (.mv (.g 1))),(qA (.call 9 [(.l 1),(.l 0)])),(qB 30 (.new 25 [(.int .i64 0),(.int .i64 0)])),(qA (.store 2 (.l 0) (.l 1)))]) (.seq (.region [(qA (.load 2 true (.g 30))),(qP (.mv (.g 2))),(qA (.call 10 [(.l 1),(.l 0)])),(qB 29 (.new 30 [.nilSlice,.nilSlice])),(qA (.store 2 (.l 0) (.l 1)))]) (.seq (.region [(qA (.load 2 true (.g 29))),(qA (.load 2 true (.g 30))),(qA (.call 11 [(.l 1),(.l 0)])),(qP (.mv (.l 0))),(qP (.ext 0 (.l 0))),(qP (.ext 1 (.l 1))),(qQ 26 (.mv (.l 1))),(qQ 28 (.mv (.l 1)))]) (.seq (.region [(qA (.load 2 true (.g 29))),(qA (.load 2 true (.g 30))),(qA (.call 12 [(.l 1),(.l 0)])),(qP (.mv (.l 0))),(qP (.ext 0 (.l 0))),(qP (.ext 1 (.l 1))),(qB 25 (.new 36 [.nilSlice,.nilSlice,.nilSlice])),(qA (.store 3 (.l 0) (.l 2))),(qQ 27 (.mv (.l 2)))]) (.seq (.seq (.region [(qP (.mv (.g 28))),(qP (.bin .ne (.l 0) (qC 0))),(qP (.mv (.l 0))),(qR 0 false (.mv (.g 27))),(qR 1 false (.bin .ne (.l 0) (qC 0))),(qP (.pick (.l 2) (.c (.s (.bool true))) (.l 0))),(qP (.mv (.l 0))),(qR 0 false (.mv (.g 26))),(qR 1 false (.len (.l 0))),(qR 2 false (.fld 0 (.g 29))),(qS 3 false (.load 1 false (.l 0))),(qR 4 false (.len (.l 0))),(qR 5 false (.bin .ne (.l 3) (.l 0))),(qP (.pick (.l 6) (.c (.s (.bool true))) (.l 0))),(qP (.mv (.l 0))),(qR 0 false (.fld 2 (.g 25))),(qS 1 false (.load 1 false (.l 0))),(qR 2 false (.len (.l 0))),(qR 3 false (.fld 1 (.g 29))),(qS 4 false (.load 1 false (.l 0))),(qR 5 false (.len (.l 0))),(qR 6 false (.bin .ne (.l 3) (.l 0))),(qQ 24 (.pick (.l 7) (.c (.s (.bool true))) (.l 0)))]) (.cond (.g 24) (.seq (.region [(qQ 3 (.mv (.c (.s (.bool false)))))]) .ret) .skip)) j9l))))))
theorem qsy:T 3=some (.mk qd9 3 28 [(.tmp 3)]):=by kernel_rfl
open Go Go.RowKit Go.Proofs.Ytehhjbfmjdlcjaa.Ms
variable {x2 x4 x5 x6 x7 x8 x9 x10 x11 x12 x13 x14 x15 x16 x18 x19 x20 x21 x22 x23 x24 x25 x27 x28 x29 x30 x31 x32 x33 x34 x35 x36 x37 x38 x39 x40 x41:AV} {a b:Int} {L:Nat} {I O xl:SV}
theorem qsz {h:Hp} (ok:Ok h) {b:Nat} (hb:1<=b) (x:Option AB):∃ hA,h.put b x=hA/\Ok hA/\hA.next=h.next/\hA.get b=x/\∀ n,n≠b->hA.get n=h.get n :=
 ⟨_,rfl,jad ok,Hp.next_put ..,by rw [jal ok hb,if_pos rfl],fun n hn=>by rw [jal ok hb,if_neg hn]⟩
theorem jxk:∀ vs:List Nat,(vs.map jas).flatten=vs.map (fun v:Nat=>si (v:Int))
 | []=>rfl
 | v::vs=>by rw [List.map_cons,f17,jxk vs];rfl
theorem rdI {vs:List Nat} {i:Nat} (hi:i<vs.length) {ty:TypeId}:rdB (some (.arr (vs.map jas).flatten ty)) i 1=some [si (vs.getD i 0)]:=by
 apply j65
 rw [jxk,f1i,f0d,f0b hi]
 rfl
theorem wrI {vs:List Nat} {i:Nat} (hi:i<vs.length) (n:Nat):jbn i [si n] (vs.map jas).flatten=some ((vs.set i n).map jas).flatten:=by
 refine (jec _).2 ⟨?_,?_⟩
 ·rw [jxk];simp;omega
 ·rw [jxk,jxk,List.map_set]
  rw [List.set_eq_take_append_cons_drop,if_pos (by simpa using hi)]
  simp
theorem j9m {c i:Nat} {ex:Bool} (hi:i<L):jyp 1 (.s (.slice c 0 L L ex 1)) (vi (i:Int))=some (.s (.ptr c i)):=by
 rw [jbd hi]
 simp
theorem qpp (x:SV):∀ n,rep [x] n=(List.replicate n [x]).flatten
 | 0=>rfl
 | n+1=>by
  have h:rep [x] (n+1)=jhf [x] (rep [x] n):=rfl
  rw [h,jdc,qpp x n];rfl
attribute [local go_sem] f0k f0p f0r decide_eq_true_eq decide_eq_false_iff_not f0e and_true true_and f0n f0o reduceCtorEq decide_true decide_false f03 f0y f0s f0i Option.some.injEq f0l not_true_eq_false not_false_eq_true Hp.next_push Hp.next_put f0v Int.reduceToNat Nat.reduceAdd Nat.reduceMul Nat.reduceEqDiff Int.reduceEq Int.reduceLT Int.reduceLE Int.reduceNeg Int.reduceAdd Int.reduceSub Int.reduceMul Int.reduceNe
attribute [local go_sem ↓] reduceIte
set_option maxHeartbeats 4000000
def pw (d:Nat):Nat:=8 ^ (min d 4)
theorem qs0 (d:Nat):8 ^ (min d 4)<=4096:=Nat.pow_le_pow_right (by omega) (Nat.min_le_right d 4)
theorem qpq {i:Nat} (h:i<=4):8 ^ i<=4096:=Nat.pow_le_pow_right (n:=8) (by omega) h
theorem qea {F:Fns} {m:Nat} (hm:m<=4) {x0 x1:AV} {Q:Ex->St->Prop} {h:Hp} (hQ:∀ x3,Q (.exit 0) (.mk [x0,x1,vi ((8 ^ m:Nat):Int),x3,vi m,vi m] h)) :
 ∀ (d i:Nat) (_:i+d=m) {x3:AV},W F ju0.loop (.mk [x0,x1,vi ((8 ^ i:Nat):Int),x3,vi m,vi i] h) Q
 | 0,i,hd,x3=>by
  obtain rfl:i=m:=by omega
  rw [jam]
  unfold ju0
  simp (disch:=first|omega|rfl|apply_rules[jaa,jac,jad]) only [go_sem,f04]
  exact hQ _
 | d+1,i,hd,x3=>by
  have hlt:(i:Int)<(m:Int):=by omega
  have hs:(i:Int)+1=((i+1:Nat):Int):=by omega
  have hp:=qpq (i:=i) (by omega)
  have hs2:((8 ^ i:Nat):Int)*8=((8 ^ (i+1):Nat):Int):=by rw [Nat.pow_succ];omega
  have ih:=fun y=>qea (F:=F) hm (x0:=x0) (x1:=x1) (h:=h) hQ d (i+1) (by omega) (x3:=y)
  generalize hA:8 ^ i=A at *
  generalize hB:8 ^ (i+1)=B at *
  rw [jam]
  unfold ju0 j89
  simp (disch:=first|omega|rfl|apply_rules[jaa,jac,jad]) only [go_sem,jag,eq_true hlt,hs,hs2]
  exact ih _
theorem qli {F:Fns} {k:Bool} {h:Hp} (ok:Ok h) {d:Nat} (hX:jdq F 23 [vi d] h=none) (hT:qev F 23=T 23) :
 WC F 23 [vi d] h (fun v h'=>∃ q,jhd k h' q v=some (vi (pw d))):=by
 refine jbf hX (hT.trans qsw) rfl ?_
 unfold qd7
 have hmm:mmV false (some (vi d)) (some (vi 4))=some (vi ((min d 4:Nat):Int)):=by
  rw [jtu]
  congr 3
  split<;>omega
 obtain ⟨m,em⟩:∃ m,min d 4=m:=⟨_,rfl⟩
 rw [em] at hmm
 have ep:pw d=8 ^ m:=by unfold pw;rw [em]
 have e1:vi ((8 ^ 0:Nat):Int)=vi 1:=rfl
 simp (disch:=first|omega|rfl|apply_rules[jaa,jac,jad]) only [go_sem,hmm]
 refine qea (m:=m) (by omega) (fun x3=>?_) m 0 (by omega)
 rw [ep]
 generalize 8 ^ m=A
 simp (disch:=first|omega|rfl|apply_rules[jaa,jac,jad]) only [go_sem]
 exact ⟨1,rfl⟩
def SP1 (f:FuncId):Bool:=Nat.beq f 23
noncomputable def FP1:Fns:=PX SP1 F12
theorem qlj {h:Hp} {Q:AV->Hp->Prop} {d:Nat}:WC FP1 23 [vi d] h Q=Q (vi (pw d)) h :=
 jau (jbe rfl rfl (qli jeh (qsv rfl rfl rfl rfl rfl rfl rfl rfl rfl rfl rfl rfl) rfl))
def j2i (w:Nat) (vs:List Nat) (v:Nat):List Nat:=vs.set v (vs.getD v 0+w)
def jil (w:Nat) (l:List Nat) (vs:List Nat):List Nat:=l.foldl (j2i w) vs
def Bd (vs:List Nat) (n:Nat):Prop:=∀ v∈vs,v<=4096*n
theorem Bd.add {vs:List Nat} {n w v:Nat} (h:Bd vs n) (hw:w<=4096):Bd (j2i w vs v) (n+1):=fun u hu=>by
 rcases List.mem_or_eq_of_mem_set hu with h1 | rfl
 ·have:=h u h1;omega
 ·have:vs.getD v 0<=4096*n:=by
   rw [f0d]
   cases e:vs[v]? with
   | none=>simp
   | some x=>exact h x (f0c e)
  omega
theorem Bd.at {vs:List Nat} {n:Nat} (h:Bd vs n) (v:Nat):vs.getD v 0<=4096*n:=by
 rw [f0d]
 cases e:vs[v]? with
 | none=>simp
 | some x=>exact h x (f0c e)
theorem jks (w:Nat) (vs:List Nat) (v:Nat):(j2i w vs v).length=vs.length:=by unfold j2i;rw [f3a]
structure PT (hi:Hp) (v L:Nat) (vs:List Nat) (n:Nat):Prop where
 ok:Ok hi
 v1:1<=v
 vn:v<hi.next
 len:vs.length=L
 bd:Bd vs n
 xv:hi.get v=some (.arr (vs.map jas).flatten 3)
theorem PT.keep {hi hj:Hp} {v n:Nat} {vs:List Nat} (k:PT hi v L vs n) (ok:Ok hj) (hn:hi.next<=hj.next) (g:hj.get v=hi.get v):PT hj v L vs n :=
 ⟨ok,k.v1,f0q k.vn hn,k.len,k.bd,g.trans k.xv⟩
theorem qpr {l:List Nat} {w v N:Nat} (hw:w<=4096) (hl:l.length<=1000) (ho:∀ u∈l,u<L) (hN:N+l.length<=1000000) {fin:List Nat} {x0 x1 x3 x17:AV} {Q:Ex->St->Prop} :
 ∀ (d i:Nat) (_:i+d=l.length) {hi:Hp} {vs:List Nat} (_:PT hi v L vs (N+i)) (_:jil w (l.drop i) vs=fin) {x25 x28:AV}
  (hQ:∀ hj x25 x28,PT hj v L fin (N+l.length)->hi.next<=hj.next->(∀ n,n<hi.next->n≠v->hj.get n=hi.get n)->Q (.exit 2) (.mk [x0,x1,x2,x3,x4,x5,x6,x7,x8,x9,x10,x11,x12,x13,x14,x15,x16,x17,x18,x19,x20,x21,x22,x23,vi w,x25,.s (.slice v 0 L L true 1),.s (jah jas l),x28,vi l.length,vi l.length,x31,x32,x33,x34,x35,x36,x37,x38,x39,x40,x41] hj)),
  W FP1 ju1.loop (.mk [x0,x1,x2,x3,x4,x5,x6,x7,x8,x9,x10,x11,x12,x13,x14,x15,x16,x17,x18,x19,x20,x21,x22,x23,vi w,x25,.s (.slice v 0 L L true 1),.s (jah jas l),x28,vi l.length,vi i,x31,x32,x33,x34,x35,x36,x37,x38,x39,x40,x41] hi) Q
 | 0,i,hd,hi,vs,k,hf,x25,x28,hQ=>by
  obtain rfl:i=l.length:=by omega
  rw [f26] at hf
  have hf':vs=fin:=hf
  subst hf'
  rw [jam]
  unfold ju1
  simp (disch:=first|omega|rfl|apply_rules[jaa,jac,jad]) only [go_sem,f04]
  exact hQ hi _ _ k (f0f _) (fun _ _ _=>rfl)
 | d+1,i,hd,hi,vs,k,hf,x25,x28,hQ=>by
  have hil:i<l.length:=by omega
  have hlt:(i:Int)<(l.length:Int):=by omega
  have hs:(i:Int)+1=((i+1:Nat):Int):=by omega
  obtain ⟨u,hu⟩:∃ u,l[i]?=some u:=⟨_,f0b hil⟩
  have huL:=ho u (f0c hu)
  have hix:=jaj (enc:=jas) (size:=1) hu rfl
  have hdr:l.drop i=u::l.drop (i+1):=by
   rw [f1j hil];congr 1;exact (f1g.1 hu).2
  rw [hdr] at hf
  have ok:=k.ok
  have hb:=k.bd.at u
  have hlen:=k.len
  have hsl:=j9m (c:=v) (ex:=true) huL
  have hrz:=rdI (vs:=vs) (i:=u) (by omega) (ty:=3)
  have xv:=k.xv
  have hs2:((vs.getD u 0:Nat):Int)+(w:Int)=((vs.getD u 0+w:Nat):Int):=by omega
  have hwz:=wrI (vs:=vs) (i:=u) (by omega) (vs.getD u 0+w)
  obtain ⟨hC,eC,okC,nC,xC,gC⟩:=qsz ok k.v1 (some (.arr ((vs.set u (vs.getD u 0+w)).map jas).flatten 3))
  have kC:PT hC v L (j2i w vs u) (N+(i+1)):=⟨okC,k.v1,by have:=k.vn;omega,by rw [jks];exact hlen,k.bd.add hw,xC⟩
  rw [jam]
  unfold ju1 j9a
  simp (disch:=first|omega|rfl|apply_rules[jaa,jac,jad]) only [go_sem,jag,eq_true hlt,hix,jas,xv,hsl,hrz,hs2,hwz,eC,hs]
  exact qpr hw hl ho hN d (i+1) (by omega) kC hf (fun hj x25 x28 k' n' g'=>hQ hj x25 x28 k' (by omega) (fun n h1 h2=>(g' n (by omega) h2).trans (gC n h2)))
theorem qps {l:List Nat} {w v N:Nat} (hw:w<=4096) (hl:l.length<=1000) (ho:∀ u∈l,u<L) (hN:N+l.length<=1000000) {fin:List Nat} {x0 x1 x3 x17:AV} {Q:Ex->St->Prop} :
 ∀ (d i:Nat) (_:i+d=l.length) {hi:Hp} {vs:List Nat} (_:PT hi v L vs (N+i)) (_:jil w (l.drop i) vs=fin) {x4 x6:AV}
  (hQ:∀ hj x4 x6,PT hj v L fin (N+l.length)->hi.next<=hj.next->(∀ n,n<hi.next->n≠v->hj.get n=hi.get n)->Q (.exit 10) (.mk [x0,x1,x2,x3,x4,.s (jah jas l),x6,vi l.length,vi l.length,x9,x10,x11,x12,x13,x14,x15,x16,x17,x18,x19,x20,x21,x22,x23,vi w,x25,.s (.slice v 0 L L true 1),x27,x28,x29,x30,x31,x32,x33,x34,x35,x36,x37,x38,x39,x40,x41] hj)),
  W FP1 ju4.loop (.mk [x0,x1,x2,x3,x4,.s (jah jas l),x6,vi l.length,vi i,x9,x10,x11,x12,x13,x14,x15,x16,x17,x18,x19,x20,x21,x22,x23,vi w,x25,.s (.slice v 0 L L true 1),x27,x28,x29,x30,x31,x32,x33,x34,x35,x36,x37,x38,x39,x40,x41] hi) Q
 | 0,i,hd,hi,vs,k,hf,x4,x6,hQ=>by
  obtain rfl:i=l.length:=by omega
  rw [f26] at hf
  have hf':vs=fin:=hf
  subst hf'
  rw [jam]
  unfold ju4
  simp (disch:=first|omega|rfl|apply_rules[jaa,jac,jad]) only [go_sem,f04]
  exact hQ hi _ _ k (f0f _) (fun _ _ _=>rfl)
 | d+1,i,hd,hi,vs,k,hf,x4,x6,hQ=>by
  have hil:i<l.length:=by omega
  have hlt:(i:Int)<(l.length:Int):=by omega
  have hs:(i:Int)+1=((i+1:Nat):Int):=by omega
  obtain ⟨u,hu⟩:∃ u,l[i]?=some u:=⟨_,f0b hil⟩
  have huL:=ho u (f0c hu)
  have hix:=jaj (enc:=jas) (size:=1) hu rfl
  have hdr:l.drop i=u::l.drop (i+1):=by
   rw [f1j hil];congr 1;exact (f1g.1 hu).2
  rw [hdr] at hf
  have ok:=k.ok
  have hb:=k.bd.at u
  have hlen:=k.len
  have hsl:=j9m (c:=v) (ex:=true) huL
  have hrz:=rdI (vs:=vs) (i:=u) (by omega) (ty:=3)
  have xv:=k.xv
  have hs2:((vs.getD u 0:Nat):Int)+(w:Int)=((vs.getD u 0+w:Nat):Int):=by omega
  have hwz:=wrI (vs:=vs) (i:=u) (by omega) (vs.getD u 0+w)
  obtain ⟨hC,eC,okC,nC,xC,gC⟩:=qsz ok k.v1 (some (.arr ((vs.set u (vs.getD u 0+w)).map jas).flatten 3))
  have kC:PT hC v L (j2i w vs u) (N+(i+1)):=⟨okC,k.v1,by have:=k.vn;omega,by rw [jks];exact hlen,k.bd.add hw,xC⟩
  rw [jam]
  unfold ju4 j9d
  simp (disch:=first|omega|rfl|apply_rules[jaa,jac,jad]) only [go_sem,jag,eq_true hlt,hix,jas,xv,hsl,hrz,hs2,hwz,eC,hs]
  exact qps hw hl ho hN d (i+1) (by omega) kC hf (fun hj x4 x6 k' n' g'=>hQ hj x4 x6 k' (by omega) (fun n h1 h2=>(g' n (by omega) h2).trans (gC n h2)))
theorem qpt {l:List Ms.Opd} {w v N:Nat} (hw:w<=4096) (hl:l.length<=1000) (ho:∀ o∈l,o.value<L) (hN:N+l.length<=1000000) {fin:List Nat} {x0 x1 x3:AV} {Q:Ex->St->Prop} :
 ∀ (d i:Nat) (_:i+d=l.length) {hi:Hp} {vs:List Nat} (_:PT hi v L vs (N+i)) (_:jil w ((l.drop i).map (·.value)) vs=fin) {x14 x16:AV}
  (hQ:∀ hj x14 x16,PT hj v L fin (N+l.length)->hi.next<=hj.next->(∀ n,n<hi.next->n≠v->hj.get n=hi.get n)->Q (.exit 6) (.mk [x0,x1,x2,x3,x4,x5,x6,x7,x8,x9,x10,x11,x12,x13,x14,.s (jah jbb l),x16,vi l.length,vi l.length,x19,x20,x21,x22,x23,vi w,x25,.s (.slice v 0 L L true 1),x27,x28,x29,x30,x31,x32,x33,x34,x35,x36,x37,x38,x39,x40,x41] hj)),
  W FP1 ju2.loop (.mk [x0,x1,x2,x3,x4,x5,x6,x7,x8,x9,x10,x11,x12,x13,x14,.s (jah jbb l),x16,vi l.length,vi i,x19,x20,x21,x22,x23,vi w,x25,.s (.slice v 0 L L true 1),x27,x28,x29,x30,x31,x32,x33,x34,x35,x36,x37,x38,x39,x40,x41] hi) Q
 | 0,i,hd,hi,vs,k,hf,x14,x16,hQ=>by
  obtain rfl:i=l.length:=by omega
  rw [f26] at hf
  have hf':vs=fin:=hf
  subst hf'
  rw [jam]
  unfold ju2
  simp (disch:=first|omega|rfl|apply_rules[jaa,jac,jad]) only [go_sem,f04]
  exact hQ hi _ _ k (f0f _) (fun _ _ _=>rfl)
 | d+1,i,hd,hi,vs,k,hf,x14,x16,hQ=>by
  have hil:i<l.length:=by omega
  have hlt:(i:Int)<(l.length:Int):=by omega
  have hs:(i:Int)+1=((i+1:Nat):Int):=by omega
  obtain ⟨o,hu⟩:∃ u,l[i]?=some u:=⟨_,f0b hil⟩
  have huL:=ho o (f0c hu)
  have hix:=jaj (enc:=jbb) (size:=5) hu rfl
  have hdr:l.drop i=o::l.drop (i+1):=by
   rw [f1j hil];congr 1;exact (f1g.1 hu).2
  rw [hdr] at hf
  have hb:=k.bd.at o.value
  have hlen:=k.len
  have ok:=k.ok
  obtain ⟨hA,eA,okA,nA,xA,gA⟩:=jcl ok [.int .i64 0,.int .i64 0,.bool false,.int .i64 0,.int .i64 0] (jbb o) 48
  have kA:=k.keep okA (by omega) (gA _ k.vn)
  have hsl:=j9m (c:=v) (ex:=true) huL
  have hrz:=rdI (vs:=vs) (i:=o.value) (by omega) (ty:=3)
  have xv:=kA.xv
  have hs2:((vs.getD o.value 0:Nat):Int)+(w:Int)=((vs.getD o.value 0+w:Nat):Int):=by omega
  have hwz:=wrI (vs:=vs) (i:=o.value) (by omega) (vs.getD o.value 0+w)
  obtain ⟨hC,eC,okC,nC,xC,gC⟩:=qsz okA k.v1 (some (.arr ((vs.set o.value (vs.getD o.value 0+w)).map jas).flatten 3))
  have kC:PT hC v L (j2i w vs o.value) (N+(i+1)):=⟨okC,k.v1,by have:=k.vn;omega,by rw [jks];exact hlen,k.bd.add hw,xC⟩
  unfold jbb at xA eA
  rw [jam]
  unfold ju2 j9b
  simp (disch:=first|omega|rfl|apply_rules[jaa,jac,jad]) only [go_sem,jag,eq_true hlt,hix,jbb,eA,xA,xv,hsl,hrz,hs2,hwz,eC,hs]
  exact qpt hw hl ho hN d (i+1) (by omega) kC hf (fun hj x14 x16 k' n' g'=>hQ hj x14 x16 k' (by omega) (fun n h1 h2=>(g' n (by omega) h2).trans ((gC n h2).trans (gA n h1))))
theorem jnc (w:Nat) (a b vs:List Nat):jil w (a++b) vs=jil w b (jil w a vs):=by unfold jil;rw [List.foldl_append]
def qeb (l:List Ms.Ins):List Nat:=(l.map (fun x=>x.ops.map (·.value))).flatten
def qlt (l:List Ms.Edg):List Nat:=(l.map (·.args)).flatten
theorem qpu {l:List Ms.Ins} {w v N:Nat} (hw:w<=4096) (hl:l.length<=1000) (ho:∀ x∈l,x.ops.length<=6/\∀ o∈x.ops,o.value<L) (hN:N+6*l.length<=1000000) {fin:List Nat} {x0 x1 x3:AV} {Q:Ex->St->Prop} :
 ∀ (d i:Nat) (_:i+d=l.length) {hi:Hp} {vs:List Nat} (_:PT hi v L vs (N+6*i)) (_:jil w (qeb (l.drop i)) vs=fin) {x14 x15 x16 x17 x18 x19 x21:AV}
  (hQ:∀ hj x14 x15 x16 x17 x18 x19 x21,PT hj v L fin (N+6*l.length)->hi.next<=hj.next->(∀ n,n<hi.next->n≠v->hj.get n=hi.get n)->Q (.exit 4) (.mk [x0,x1,x2,x3,x4,x5,x6,x7,x8,x9,x10,x11,x12,x13,x14,x15,x16,x17,x18,x19,.s (jah jdv l),x21,vi l.length,vi l.length,vi w,x25,.s (.slice v 0 L L true 1),x27,x28,x29,x30,x31,x32,x33,x34,x35,x36,x37,x38,x39,x40,x41] hj)),
  W FP1 ju3.loop (.mk [x0,x1,x2,x3,x4,x5,x6,x7,x8,x9,x10,x11,x12,x13,x14,x15,x16,x17,x18,x19,.s (jah jdv l),x21,vi l.length,vi i,vi w,x25,.s (.slice v 0 L L true 1),x27,x28,x29,x30,x31,x32,x33,x34,x35,x36,x37,x38,x39,x40,x41] hi) Q
 | 0,i,hd,hi,vs,k,hf,x14,x15,x16,x17,x18,x19,x21,hQ=>by
  obtain rfl:i=l.length:=by omega
  rw [f26] at hf
  have hf':vs=fin:=hf
  subst hf'
  rw [jam]
  unfold ju3
  simp (disch:=first|omega|rfl|apply_rules[jaa,jac,jad]) only [go_sem,f04]
  exact hQ hi _ _ _ _ _ _ _ k (f0f _) (fun _ _ _=>rfl)
 | d+1,i,hd,hi,vs,k,hf,x14,x15,x16,x17,x18,x19,x21,hQ=>by
  have hil:i<l.length:=by omega
  have hlt:(i:Int)<(l.length:Int):=by omega
  have hs:(i:Int)+1=((i+1:Nat):Int):=by omega
  obtain ⟨x,hu⟩:∃ u,l[i]?=some u:=⟨_,f0b hil⟩
  obtain ⟨h6,hoL⟩:=ho x (f0c hu)
  have hix:=jaj (enc:=jdv) (size:=3) hu rfl
  have hdr:l.drop i=x::l.drop (i+1):=by
   rw [f1j hil];congr 1;exact (f1g.1 hu).2
  rw [hdr] at hf
  have hf2:jil w (qeb (l.drop (i+1))) (jil w (x.ops.map (·.value)) vs)=fin:=by
   rw [←jnc];exact hf
  have ok:=k.ok
  obtain ⟨hA,eA,okA,nA,xA,gA⟩:=jcl ok [.int .i64 0,.nilSlice,.nilSlice] (jdv x) 46
  have kA:=k.keep okA (by omega) (gA _ k.vn)
  have lo1:=jak (enc:=jbb) (l:=x.ops)
  unfold jdv at xA eA
  rw [jam]
  unfold ju3 j9c
  simp (disch:=first|omega|rfl|apply_rules[jaa,jac,jad]) only [go_sem,jag,eq_true hlt,hix,jdv,eA,xA,lo1]
  refine qpt (l:=x.ops) (N:=N+6*i) hw (by omega) hoL (by omega) (fin:=jil w (x.ops.map (·.value)) vs) x.ops.length 0 (by omega) kA rfl (fun hj x14 x16 kj nj gj=>?_)
  have kj':PT hj v L (jil w (x.ops.map (·.value)) vs) (N+6*(i+1)):=⟨kj.ok,kj.v1,kj.vn,kj.len,fun u hu=>by have:=kj.bd u hu;omega,kj.xv⟩
  simp (disch:=first|omega|rfl|apply_rules[jaa,jac,jad]) only [go_sem,jag,hs]
  exact qpu hw hl ho hN d (i+1) (by omega) kj' hf2 (fun hk x14 x15 x16 x17 x18 x19 x21 k' n' g'=>hQ hk x14 x15 x16 x17 x18 x19 x21 k' (by omega) (fun n h1 h2=>(g' n (by omega) h2).trans ((gj n (by omega) h2).trans (gA n h1))))
theorem qpv {l:List Ms.Edg} {w v N:Nat} (hw:w<=4096) (hl:l.length<=1000) (ho:∀ e∈l,e.args.length<=5/\∀ u∈e.args,u<L) (hN:N+5*l.length<=1000000) {fin:List Nat} {x0 x1 x3 x17:AV} {Q:Ex->St->Prop} :
 ∀ (d i:Nat) (_:i+d=l.length) {hi:Hp} {vs:List Nat} (_:PT hi v L vs (N+5*i)) (_:jil w (qlt (l.drop i)) vs=fin) {x4 x5 x6 x7 x8 x9 x11:AV}
  (hQ:∀ hj x4 x5 x6 x7 x8 x9 x11,PT hj v L fin (N+5*l.length)->hi.next<=hj.next->(∀ n,n<hi.next->n≠v->hj.get n=hi.get n)->Q (.exit 8) (.mk [x0,x1,x2,x3,x4,x5,x6,x7,x8,x9,.s (jah jgc l),x11,vi l.length,vi l.length,x14,x15,x16,x17,x18,x19,x20,x21,x22,x23,vi w,x25,.s (.slice v 0 L L true 1),x27,x28,x29,x30,x31,x32,x33,x34,x35,x36,x37,x38,x39,x40,x41] hj)),
  W FP1 ju5.loop (.mk [x0,x1,x2,x3,x4,x5,x6,x7,x8,x9,.s (jah jgc l),x11,vi l.length,vi i,x14,x15,x16,x17,x18,x19,x20,x21,x22,x23,vi w,x25,.s (.slice v 0 L L true 1),x27,x28,x29,x30,x31,x32,x33,x34,x35,x36,x37,x38,x39,x40,x41] hi) Q
 | 0,i,hd,hi,vs,k,hf,x4,x5,x6,x7,x8,x9,x11,hQ=>by
  obtain rfl:i=l.length:=by omega
  rw [f26] at hf
  have hf':vs=fin:=hf
  subst hf'
  rw [jam]
  unfold ju5
  simp (disch:=first|omega|rfl|apply_rules[jaa,jac,jad]) only [go_sem,f04]
  exact hQ hi _ _ _ _ _ _ _ k (f0f _) (fun _ _ _=>rfl)
 | d+1,i,hd,hi,vs,k,hf,x4,x5,x6,x7,x8,x9,x11,hQ=>by
  have hil:i<l.length:=by omega
  have hlt:(i:Int)<(l.length:Int):=by omega
  have hs:(i:Int)+1=((i+1:Nat):Int):=by omega
  obtain ⟨x,hu⟩:∃ u,l[i]?=some u:=⟨_,f0b hil⟩
  obtain ⟨h6,hoL⟩:=ho x (f0c hu)
  have hix:=jaj (enc:=jgc) (size:=2) hu rfl
  have hdr:l.drop i=x::l.drop (i+1):=by
   rw [f1j hil];congr 1;exact (f1g.1 hu).2
  rw [hdr] at hf
  have hf2:jil w (qlt (l.drop (i+1))) (jil w x.args vs)=fin:=by
   rw [←jnc];exact hf
  have ok:=k.ok
  obtain ⟨hA,eA,okA,nA,xA,gA⟩:=jcl ok [.int .i64 0,.nilSlice] (jgc x) 56
  have kA:=k.keep okA (by omega) (gA _ k.vn)
  have lo1:=jak (enc:=jas) (l:=x.args)
  unfold jgc at xA eA
  rw [jam]
  unfold ju5 j9e
  simp (disch:=first|omega|rfl|apply_rules[jaa,jac,jad]) only [go_sem,jag,eq_true hlt,hix,jgc,eA,xA,lo1]
  refine qps (l:=x.args) (N:=N+5*i) hw (by omega) hoL (by omega) (fin:=jil w x.args vs) x.args.length 0 (by omega) kA rfl (fun hj x4 x6 kj nj gj=>?_)
  have kj':PT hj v L (jil w x.args vs) (N+5*(i+1)):=⟨kj.ok,kj.v1,kj.vn,kj.len,fun u hu=>by have:=kj.bd u hu;omega,kj.xv⟩
  simp (disch:=first|omega|rfl|apply_rules[jaa,jac,jad]) only [go_sem,jag,hs]
  exact qpv hw hl ho hN d (i+1) (by omega) kj' hf2 (fun hk x4 x5 x6 x7 x8 x9 x11 k' n' g'=>hQ hk x4 x5 x6 x7 x8 x9 x11 k' (by omega) (fun n h1 h2=>(g' n (by omega) h2).trans ((gj n (by omega) h2).trans (gA n h1))))
def qb2 (b:Ms.Blk):List Nat:=b.params++(qeb b.instrs++qlt b.edges)
def prF (dep:List Nat):List Ms.Blk->Nat->List Nat->List Nat
 | [],_,vs=>vs
 | b::r,k,vs=>prF dep r (k+1) (jil (pw (dep.getD k 0)) (qb2 b) vs)
structure VlOk (f:Fc):Prop where
 nb:f.blocks.length<=16
 blk:∀ b∈f.blocks,b.params.length<=5/\b.instrs.length<=40/\b.edges.length<=3/\(∀ u∈b.params,u<f.values.length)/\(∀ x∈b.instrs,x.ops.length<=6/\∀ o∈x.ops,o.value<f.values.length)/\∀ e∈b.edges,e.args.length<=5/\∀ u∈e.args,u<f.values.length
theorem qpw {f:Fc} (vo:VlOk f) {dep:List Nat} (hdep:dep.length=f.blocks.length) {v bT:Nat} (hT:bT≠v) {fin:List Nat} {x0 x1 x3:AV} {Q:Ex->St->Prop} :
 ∀ (d i:Nat) (_:i+d=f.blocks.length) {hi:Hp} {vs:List Nat} (_:PT hi v f.values.length vs (300*i)) (_:bT<hi.next) (_:hi.get bT=some (.arr [O,I,jah jas dep] 36)) (_:prF dep (f.blocks.drop i) i vs=fin) {x4 x5 x6 x7 x8 x9 x10 x11 x12 x13 x14 x15 x16 x17 x18 x19 x20 x21 x22 x23 x24 x25 x27 x28 x29 x30 x31 x32 x35:AV}
  (hQ:∀ hj x4 x5 x6 x7 x8 x9 x10 x11 x12 x13 x14 x15 x16 x17 x18 x19 x20 x21 x22 x23 x24 x25 x27 x28 x29 x30 x31 x32 x35,PT hj v f.values.length fin (300*f.blocks.length)->Q (.exit 0) (.mk [x0,x1,x2,x3,x4,x5,x6,x7,x8,x9,x10,x11,x12,x13,x14,x15,x16,x17,x18,x19,x20,x21,x22,x23,x24,x25,.s (.slice v 0 f.values.length f.values.length true 1),x27,x28,x29,x30,x31,x32,.s (.ptr bT 0),.s (jah ja3 f.blocks),x35,vi f.blocks.length,vi f.blocks.length,x38,x39,x40,x41] hj)),
  W FP1 ju6.loop (.mk [x0,x1,x2,x3,x4,x5,x6,x7,x8,x9,x10,x11,x12,x13,x14,x15,x16,x17,x18,x19,x20,x21,x22,x23,x24,x25,.s (.slice v 0 f.values.length f.values.length true 1),x27,x28,x29,x30,x31,x32,.s (.ptr bT 0),.s (jah ja3 f.blocks),x35,vi f.blocks.length,vi i,x38,x39,x40,x41] hi) Q
 | 0,i,hd,hi,vs,k,hbT,xT,hf,x4,x5,x6,x7,x8,x9,x10,x11,x12,x13,x14,x15,x16,x17,x18,x19,x20,x21,x22,x23,x24,x25,x27,x28,x29,x30,x31,x32,x35,hQ=>by
  obtain rfl:i=f.blocks.length:=by omega
  rw [f26] at hf
  have hf':vs=fin:=hf
  subst hf'
  rw [jam]
  unfold ju6
  simp (disch:=first|omega|rfl|apply_rules[jaa,jac,jad]) only [go_sem,f04]
  exact hQ hi _ _ _ _ _ _ _ _ _ _ _ _ _ _ _ _ _ _ _ _ _ _ _ _ _ _ _ _ _ k
 | d+1,i,hd,hi,vs,k,hbT,xT,hf,x4,x5,x6,x7,x8,x9,x10,x11,x12,x13,x14,x15,x16,x17,x18,x19,x20,x21,x22,x23,x24,x25,x27,x28,x29,x30,x31,x32,x35,hQ=>by
  have hil:i<f.blocks.length:=by omega
  have hlt:(i:Int)<(f.blocks.length:Int):=by omega
  have hs:(i:Int)+1=((i+1:Nat):Int):=by omega
  have nb:=vo.nb
  obtain ⟨b,hu⟩:∃ u,f.blocks[i]?=some u:=⟨_,f0b hil⟩
  obtain ⟨p1,p2,p3,p4,p5,p6⟩:=vo.blk b (f0c hu)
  obtain ⟨dd,hdd⟩:∃ u,dep[i]?=some u:=⟨_,f0b (by omega)⟩
  have hix:=jaj (enc:=ja3) (size:=3) hu rfl
  have hxd:=jaj (enc:=jas) (size:=1) hdd rfl
  have hdr:f.blocks.drop i=b::f.blocks.drop (i+1):=by
   rw [f1j hil];congr 1;exact (f1g.1 hu).2
  rw [hdr] at hf
  have hgd:dep.getD i 0=dd:=by rw [f0d,hdd];rfl
  obtain ⟨w,ew⟩:∃ w,pw dd=w:=⟨_,rfl⟩
  have hw:w<=4096:=by rw [←ew];exact qs0 dd
  have hf2:prF dep (f.blocks.drop (i+1)) (i+1) (jil w (qlt b.edges) (jil w (qeb b.instrs) (jil w b.params vs)))=fin:=by
   rw [←jnc,←jnc,←ew,←hgd];exact hf
  have ok:=k.ok
  obtain ⟨hA,eA,okA,nA,xA,gA⟩:=jcl ok [.nilSlice,.nilSlice,.nilSlice] (ja3 b) 42
  have kA:=k.keep okA (by omega) (gA _ k.vn)
  have tA:=(gA _ hbT).trans xT
  have l1:=jak (enc:=jas) (l:=b.params)
  have l2:=jak (enc:=jdv) (l:=b.instrs)
  have l3:=jak (enc:=jgc) (l:=b.edges)
  have hne:hi.next≠v:=by have:=k.vn;omega
  unfold ja3 at xA eA
  rw [jam]
  unfold ju6 j9f
  simp (disch:=first|omega|rfl|apply_rules[jaa,jac,jad]) only [go_sem,jag,eq_true hlt,hix,ja3,eA,xA,tA,hxd,jas,qlj,ew,l1]
  refine qpr (l:=b.params) (N:=300*i) hw (by omega) p4 (by omega) (fin:=jil w b.params vs) b.params.length 0 (by omega) kA rfl (fun hj x25 x28 kj nj gj=>?_)
  have xj:=(gj _ (by omega) hne).trans xA
  simp (disch:=first|omega|rfl|apply_rules[jaa,jac,jad]) only [go_sem,xj,l2]
  refine qpu (l:=b.instrs) (N:=300*i+b.params.length) hw (by omega) p5 (by omega) (fin:=jil w (qeb b.instrs) (jil w b.params vs)) b.instrs.length 0 (by omega) kj rfl (fun hk x14 x15 x16 x17 x18 x19 x21 kk nk gk=>?_)
  have xk:=(gk _ (by omega) hne).trans xj
  simp (disch:=first|omega|rfl|apply_rules[jaa,jac,jad]) only [go_sem,xk,l3]
  refine qpv (l:=b.edges) (N:=300*i+b.params.length+6*b.instrs.length) hw (by omega) p6 (by omega) (fin:=jil w (qlt b.edges) (jil w (qeb b.instrs) (jil w b.params vs))) b.edges.length 0 (by omega) kk rfl (fun hl x4 x5 x6 x7 x8 x9 x11 kl nl gl=>?_)
  have kl':PT hl v f.values.length (jil w (qlt b.edges) (jil w (qeb b.instrs) (jil w b.params vs))) (300*(i+1)):=⟨kl.ok,kl.v1,kl.vn,kl.len,fun u hu=>by have:=kl.bd u hu;omega,kl.xv⟩
  have tl:=(gl _ (by omega) hT).trans ((gk _ (by omega) hT).trans ((gj _ (by omega) hT).trans tA))
  simp (disch:=first|omega|rfl|apply_rules[jaa,jac,jad]) only [go_sem,jag,hs]
  exact qpw vo hdep hT d (i+1) (by omega) kl' (by omega) tl hf2 hQ
set_option maxHeartbeats 8000000
theorem qlk (w u v:Nat) (vs:List Nat):vs.getD u 0<=(j2i w vs v).getD u 0:=by
 unfold j2i
 simp only [f0d,f2g]
 by_cases e:v=u
 ·subst e
  rw [if_pos rfl]
  split
  ·simp
  ·rename_i h;rw [f0t (by omega)];simp
 ·rw [if_neg e];exact f0f _
theorem jp9 (w u:Nat):∀ (l vs:List Nat),vs.getD u 0<=(jil w l vs).getD u 0
 | [],vs=>f0f _
 | v::l,vs=>f07 (qlk w u v vs) (jp9 w u l (j2i w vs v))
theorem jvb (w:Nat):∀ (l vs:List Nat),(jil w l vs).length=vs.length
 | [],vs=>rfl
 | v::l,vs=>(jvb w l (j2i w vs v)).trans (jks w vs v)
theorem j9n (w u:Nat):∀ (l vs:List Nat),u∈l->u<vs.length->w<=(jil w l vs).getD u 0
 | [],vs,h,_=>by simp at h
 | v::l,vs,h,hu=>by
  rcases f0j.1 h with rfl | h
  ·refine f07 ?_ (jp9 w u l (j2i w vs u))
   unfold j2i
   simp only [f0d,f2g,if_pos hu]
   simp
  ·exact j9n w u l (j2i w vs v) h (by rw [jks];exact hu)
theorem j2j (dep:List Nat) (u:Nat):∀ (l:List Ms.Blk) (k:Nat) (vs:List Nat),vs.getD u 0<=(prF dep l k vs).getD u 0
 | [],_,_=>f0f _
 | b::r,k,vs=>f07 (jp9 _ u _ vs) (j2j dep u r (k+1) _)
theorem qec (dep:List Nat) (u:Nat):∀ (l:List Ms.Blk) (k i:Nat) (vs:List Nat) (b:Ms.Blk),l[i]?=some b->u∈qb2 b->u<vs.length->pw (dep.getD (k+i) 0)<=(prF dep l k vs).getD u 0
 | [],_,_,_,_,h,_,_=>by simp at h
 | c::r,k,0,vs,b,h,hu,hl=>by
  obtain rfl:c=b:=by simpa using h
  exact f07 (j9n _ u _ vs hu hl) (j2j dep u r (k+1) _)
 | c::r,k,i+1,vs,b,h,hu,hl=>by
  have:=qec dep u r (k+1) i (jil (pw (dep.getD k 0)) (qb2 c) vs) b (by simpa using h) hu (by rw [jvb];exact hl)
  rwa [show k+1+i=k+(i+1) by omega] at this
def jfi (f:Fc) (dep:List Nat):List Nat:=prF dep f.blocks 0 (List.replicate f.values.length 0)
def prA (l:List Nat):AV:=.tup [(false,[jah jas l]),(false,[si 0])]
theorem qb3:(shp 5).all (fun s=>Nat.beq (jku s).length (1+3*s.length))=true:=by kernel_rfl
theorem j9o {s:List Bool} (hs:s.length<=5):(jku s).length=1+3*s.length:=f0x (j85 qb3 hs)
theorem qpx {m:Nat×Nat} {f:Fc} (k:FcOk m f):VlOk f:=by
 refine ⟨k.nb.2,fun b hb=>?_⟩
 have h1:=k.blk b hb
 refine ⟨h1.1,h1.2.1,h1.2.2,k.prm b hb,fun x hx=>⟨(k.ins b hb x hx).nops,fun o ho=>((k.ins b hb x hx).opd o ho).val⟩,fun e he=>?_⟩
 obtain ⟨_,h3,t,h4,h5,_⟩:=k.edg b hb e he
 have h6:=congrArg List.length h5
 simp only [f1o] at h6
 have:=(k.blk t (f0c h4)).1
 exact ⟨by omega,h3⟩
section
variable {h:Hp} {m:Nat×Nat} {f:Fc} {s:List Bool} {Q:AV->Hp->Prop}
theorem j9p (o:FlOk m f s) (m1:2<=m.1/\m.1<=10) (m2:2<=m.2/\m.2<=10):jdq F12 12 [.agg [jah jas f.values,jah ja3 f.blocks],.agg [si m.1,si m.2]] h=some (jz2 s,h):=jbe rfl (by simp only [jav,ja1,ja7,jcc,ja2,ja8,ja5,jbl,ja9,jbh,if_true]) (qlh jeh o m1 m2)
theorem qb4 (o:FlOk m f s) (m1:2<=m.1/\m.1<=10) (m2:2<=m.2/\m.2<=10):WC FP1 12 [.agg [jah jas f.values,jah ja3 f.blocks],.agg [si m.1,si m.2]] h Q=Q (jz2 s) h:=jau ((jbi rfl).trans (j9p o m1 m2))
end
theorem j3v {h:Hp} (ok:Ok h) {m:Nat×Nat} {f:Fc} {s:List Bool} (o:FlOk m f s) (m1:2<=m.1/\m.1<=10) (m2:2<=m.2/\m.2<=10):WC FP1 11 [.agg (qf1 f),.agg [si m.1,si m.2]] h (fun v h'=>∃ d,jhd true h' d v=some (prA (jfi f (jku s)))):=by
 refine jbf ((jbi rfl).trans (qsv rfl rfl rfl rfl rfl rfl rfl rfl rfl rfl rfl rfl)) qsx rfl ?_
 unfold qd8
 have vo:=qpx o.k
 have hnv:=o.k.nv
 have hpos:=ok.pos
 have hlen:=o.len
 have hdl:=j9o o.hs
 obtain ⟨hA,eA,okA,nA,xA,gA⟩:=jfh ok [jah jas f.values,jah ja3 f.blocks] 30
 obtain ⟨hB,eB,okB,nB,xB,gB⟩:=jfh okA [si m.1,si m.2] 25
 obtain ⟨hC,eC,okC,nC,xC,gC⟩:=jcl okB [.nilSlice,.nilSlice,.nilSlice] [jah jas (jqn s 0),jah jjl (jem s),jah jas (jku s)] 36
 obtain ⟨hD,eD,okD,nD,xD,gD⟩:=jfh okC (rep [.int .i64 0] f.values.length) 3
 have hmk:=jsw (e:=3) (size:=1) (bytes:=8) (z:=[.int .i64 0]) (m:=f.values.length) okC (by omega) (by omega)
 rw [eD] at hmk
 have yA:=(gB _ (by omega)).trans xA
 have zA:=(gC _ (by omega)).trans yA
 have wA:=(gD _ (by omega)).trans zA
 have nb:hB.next=h.next+2:=by omega
 have nc:hC.next=h.next+3:=by omega
 rw [nA] at xB
 rw [nb] at eC xC
 rw [nc] at hmk xD
 have tD:=(gD (h.next+2) (by omega)).trans xC
 have lv:=jak (enc:=jas) (l:=f.values)
 have lb:=jak (enc:=ja3) (l:=f.blocks)
 have kD:PT hD (h.next+3) f.values.length (List.replicate f.values.length 0) (300*0):=by
  refine ⟨okD,by omega,by omega,by simp,fun v hv=>by rw [(List.mem_replicate.1 hv).2];omega,?_⟩
  rw [xD,qpp,List.map_replicate]
  rfl
 unfold qf1
 simp (disch:=first|omega|rfl|apply_rules[jaa,jac,jad]) only [go_sem,eA,eB,nA,yA,xB,qb4 o m1 m2,jz2,jzx,nb,eC]
 unfold j9g
 simp (disch:=first|omega|rfl|apply_rules[jaa,jac,jad]) only [go_sem,zA,lv,hmk,wA,lb]
 refine qpw vo (dep:=jku s) (by omega) (v:=h.next+3) (bT:=h.next+2) (by omega) (fin:=jfi f (jku s)) f.blocks.length 0 (by omega) kD (by omega) tD rfl (fun hj x4 x5 x6 x7 x8 x9 x10 x11 x12 x13 x14 x15 x16 x17 x18 x19 x20 x21 x22 x23 x24 x25 x27 x28 x29 x30 x31 x32 x35 kj=>?_)
 simp (disch:=first|omega|rfl|apply_rules[jaa,jac,jad]) only [go_sem]
 have hne:jfi f (jku s)≠[]:=fun e=>by
  have h1:=kj.len
  rw [e] at h1
  exact o.hv (f1n h1.symm)
 have s1:Sl hj 3 1 true EI (.slice (h.next+3) 0 (jfi f (jku s)).length (jfi f (jku s)).length true 1) (jfi f (jku s)) [h.next+3]:=.inr ⟨hne,h.next+3,_,[],rfl,kj.xv,qa9 _,rfl⟩
 rw [kj.len] at s1
 refine ⟨2,?_⟩
 show ob (ob (jid (jin true hj 2) [SV.slice (h.next+3) 0 f.values.length f.values.length true 1]) (fun x=>ob (qal (jin true hj 2) [(false,[.int .i64 0])]) (fun r=>some ((false,x)::r)))) (fun y=>some (AV.tup y))=_
 rw [j04 (s1.frz (enc:=jas) (d:=1) (fun row a ms e=>EI.frz e) (fun _=>rfl))]
 rfl
def SP2 (f:FuncId):Bool:=Nat.beq f 11
noncomputable def FP2:Fns:=PX SP2 FP1
theorem qs1 {A:Nat->Int}:Env Try.prog A tys FP2:=jgs (jgs qsu)
section
variable {h:Hp} {m:Nat×Nat} {f:Fc} {s:List Bool} {Q:AV->Hp->Prop}
theorem qb5 {g:FuncId} (h1:SP1 g=false) (h2:SP2 g=false) {vs:List AV}:jdq FP2 g vs h=jdq F12 g vs h:=(jbi h2).trans (jbi h1)
theorem qll (o:FlOk m f s) (m1:2<=m.1/\m.1<=10) (m2:2<=m.2/\m.2<=10):WC FP2 11 [.agg [jah jas f.values,jah ja3 f.blocks],.agg [si m.1,si m.2]] h Q=Q (prA (jfi f (jku s))) h:=jau (jbe rfl (by simp only [jav,ja1,ja7,jcc,ja2,ja8,ja5,jbl,ja9,jbh,if_true]) (j3v jeh o m1 m2))
theorem qb6 (o:FlOk m f s) (m1:2<=m.1/\m.1<=10) (m2:2<=m.2/\m.2<=10):WC FP2 12 [.agg [jah jas f.values,jah ja3 f.blocks],.agg [si m.1,si m.2]] h Q=Q (jz2 s) h:=jau ((qb5 rfl rfl).trans (j9p o m1 m2))
theorem jxl (ha:In6 a) (hb:In6 b):WC FP2 9 [vi a,vi b] h Q=Q (.agg (qm9 (jua a b))) h:=jau ((qb5 rfl rfl).trans ((qpo rfl rfl rfl rfl rfl rfl rfl rfl rfl).trans (j3n ha hb)))
theorem j9q {l:List Pc} (m1:2<=m.1/\m.1<=10) (m2:2<=m.2/\m.2<=10) (pin:∀ q∈l,Pin q) (lx:LstE jb3 7 xl l):WC FP2 10 [.agg [si m.1,si m.2],.s xl] h Q=Q (.agg (qf1 (jfm m l))) h:=jau ((qb5 rfl rfl).trans ((qpo rfl rfl rfl rfl rfl rfl rfl rfl rfl).trans (qgi m1 m2 pin lx)))
end
theorem qpy {dep:List Nat} {k dd bT:Nat} (hdd:dep[k]?=some dd) {h:Hp} (ok:Ok h) (xT:h.get bT=some (.arr [O,I,jah jas dep] 36)) {x0 x1 x3 x26:AV} {Q:Ex->St->Prop}
 (hQ:∀ x17,Q (.exit 2) (.mk [x0,x1,x2,x3,x4,x5,x6,x7,x8,x9,x10,x11,x12,x13,x14,x15,vi (pw dd),x17,vi k,vi ((min dd 4:Nat):Int),x20,x21,x22,x23,x24,.s (.ptr bT 0),x26,x27,x28,x29,x30] h)) :
 ∀ (d i:Nat) (_:i+d=min dd 4) {x17:AV},W FP2 ju7.loop (.mk [x0,x1,x2,x3,x4,x5,x6,x7,x8,x9,x10,x11,x12,x13,x14,x15,vi ((8 ^ i:Nat):Int),x17,vi k,vi i,x20,x21,x22,x23,x24,.s (.ptr bT 0),x26,x27,x28,x29,x30] h) Q
 | 0,i,hd,x17=>by
  have hxd:=jaj (enc:=jas) (size:=1) hdd rfl
  have hmi:i=min dd 4:=by omega
  have ep:pw dd=8 ^ i:=by unfold pw;rw [hmi]
  rw [ep,←hmi] at hQ
  generalize 8 ^ i=A at *
  rw [jam]
  unfold ju7
  by_cases c:i<dd
  ·have c1:((i:Int)<(dd:Int))=True:=eq_true (by omega)
   have c2:((i:Int)<4)=False:=eq_false (by omega)
   simp (disch:=first|omega|rfl|apply_rules[jaa,jac,jad]) only [go_sem,xT,hxd,jas,c1,c2]
   exact hQ _
  ·have c1:((i:Int)<(dd:Int))=False:=eq_false (by omega)
   simp (disch:=first|omega|rfl|apply_rules[jaa,jac,jad]) only [go_sem,xT,hxd,jas,c1]
   exact hQ _
 | d+1,i,hd,x17=>by
  have hxd:=jaj (enc:=jas) (size:=1) hdd rfl
  have hs:(i:Int)+1=((i+1:Nat):Int):=by omega
  have c1:((i:Int)<(dd:Int))=True:=eq_true (by omega)
  have c2:((i:Int)<4)=True:=eq_true (by omega)
  have hp:=qpq (i:=i) (by omega)
  have hs2:(8:Int)*((8 ^ i:Nat):Int)=((8 ^ (i+1):Nat):Int):=by rw [Nat.pow_succ];omega
  have ih:=fun x17=>qpy hdd ok xT hQ d (i+1) (by omega) (x17:=x17)
  generalize hA:8 ^ i=A at *
  generalize hB:8 ^ (i+1)=B at *
  rw [jam]
  unfold ju7 j9h
  simp (disch:=first|omega|rfl|apply_rules[jaa,jac,jad]) only [go_sem,jag,xT,hxd,jas,c1,c2,hs,hs2]
  exact ih _
theorem qpz {l:List Ms.Opd} {ps:List Nat} {w:Nat} (hl:l.length<=1000) (ho:∀ o∈l,o.value<ps.length/\w<=ps.getD o.value 0) {x0 x1 x3 x17:AV} {Q:Ex->St->Prop} :
 ∀ (d i:Nat) (_:i+d=l.length) {hi:Hp} (_:Ok hi) {x4 x5 x7:AV}
  (hQ:∀ hj x4 x5 x7,Ok hj->hi.next<=hj.next->(∀ n,n<hi.next->hj.get n=hi.get n)->Q (.exit 6) (.mk [x0,x1,x2,x3,x4,x5,.s (jah jbb l),x7,vi l.length,vi l.length,x10,x11,x12,x13,x14,x15,vi w,x17,x18,x19,x20,x21,x22,x23,x24,x25,.s (jah jas ps),x27,x28,x29,x30] hj)),
  W FP2 ju8.loop (.mk [x0,x1,x2,x3,x4,x5,.s (jah jbb l),x7,vi l.length,vi i,x10,x11,x12,x13,x14,x15,vi w,x17,x18,x19,x20,x21,x22,x23,x24,x25,.s (jah jas ps),x27,x28,x29,x30] hi) Q
 | 0,i,hd,hi,ok,x4,x5,x7,hQ=>by
  obtain rfl:i=l.length:=by omega
  rw [jam]
  unfold ju8
  simp (disch:=first|omega|rfl|apply_rules[jaa,jac,jad]) only [go_sem,f04]
  exact hQ hi _ _ _ ok (f0f _) (fun _ _=>rfl)
 | d+1,i,hd,hi,ok,x4,x5,x7,hQ=>by
  have hlt:(i:Int)<(l.length:Int):=by omega
  have hs:(i:Int)+1=((i+1:Nat):Int):=by omega
  obtain ⟨o,hu⟩:∃ u,l[i]?=some u:=⟨_,f0b (by omega)⟩
  obtain ⟨h1,h2⟩:=ho o (f0c hu)
  obtain ⟨q,hq⟩:∃ q,ps[o.value]?=some q:=⟨_,f0b h1⟩
  rw [f0d,hq] at h2
  have h3:w<=q:=h2
  have hix:=jaj (enc:=jbb) (size:=5) hu rfl
  have hxp:=jaj (enc:=jas) (size:=1) hq rfl
  have c1:((q:Int)<(w:Int))=False:=eq_false (by omega)
  obtain ⟨hA,eA,okA,nA,xA,gA⟩:=jcl ok [.int .i64 0,.int .i64 0,.bool false,.int .i64 0,.int .i64 0] (jbb o) 48
  unfold jbb at xA eA
  rw [jam]
  unfold ju8 j9i
  simp (disch:=first|omega|rfl|apply_rules[jaa,jac,jad]) only [go_sem,jag,eq_true hlt,hix,jbb,eA,xA,hxp,jas,c1,hs]
  exact qpz hl ho d (i+1) (by omega) okA (fun hj x4 x5 x7 o' n' g'=>hQ hj x4 x5 x7 o' (by omega) (fun n hn=>(g' n (by omega)).trans (gA n hn)))
theorem qp0 {l:List Ms.Ins} {ps:List Nat} {w:Nat} (hl:l.length<=1000) (ho:∀ x∈l,x.ops.length<=6/\∀ o∈x.ops,o.value<ps.length/\w<=ps.getD o.value 0) {x0 x1 x3 x17:AV} {Q:Ex->St->Prop} :
 ∀ (d i:Nat) (_:i+d=l.length) {hi:Hp} (_:Ok hi) {x4 x5 x6 x7 x8 x9 x10 x12:AV}
  (hQ:∀ hj x4 x5 x6 x7 x8 x9 x10 x12,Ok hj->hi.next<=hj.next->(∀ n,n<hi.next->hj.get n=hi.get n)->Q (.exit 4) (.mk [x0,x1,x2,x3,x4,x5,x6,x7,x8,x9,x10,.s (jah jdv l),x12,vi l.length,vi l.length,x15,vi w,x17,x18,x19,x20,x21,x22,x23,x24,x25,.s (jah jas ps),x27,x28,x29,x30] hj)),
  W FP2 ju9.loop (.mk [x0,x1,x2,x3,x4,x5,x6,x7,x8,x9,x10,.s (jah jdv l),x12,vi l.length,vi i,x15,vi w,x17,x18,x19,x20,x21,x22,x23,x24,x25,.s (jah jas ps),x27,x28,x29,x30] hi) Q
 | 0,i,hd,hi,ok,x4,x5,x6,x7,x8,x9,x10,x12,hQ=>by
  obtain rfl:i=l.length:=by omega
  rw [jam]
  unfold ju9
  simp (disch:=first|omega|rfl|apply_rules[jaa,jac,jad]) only [go_sem,f04]
  exact hQ hi _ _ _ _ _ _ _ _ ok (f0f _) (fun _ _=>rfl)
 | d+1,i,hd,hi,ok,x4,x5,x6,x7,x8,x9,x10,x12,hQ=>by
  have hlt:(i:Int)<(l.length:Int):=by omega
  have hs:(i:Int)+1=((i+1:Nat):Int):=by omega
  obtain ⟨x,hu⟩:∃ u,l[i]?=some u:=⟨_,f0b (by omega)⟩
  obtain ⟨h1,h2⟩:=ho x (f0c hu)
  have hix:=jaj (enc:=jdv) (size:=3) hu rfl
  have lo1:=jak (enc:=jbb) (l:=x.ops)
  obtain ⟨hA,eA,okA,nA,xA,gA⟩:=jcl ok [.int .i64 0,.nilSlice,.nilSlice] (jdv x) 46
  unfold jdv at xA eA
  rw [jam]
  unfold ju9 j9j
  simp (disch:=first|omega|rfl|apply_rules[jaa,jac,jad]) only [go_sem,jag,eq_true hlt,hix,jdv,eA,xA,lo1]
  refine qpz (l:=x.ops) (by omega) h2 x.ops.length 0 (by omega) okA (fun hj x4 x5 x7 oj nj gj=>?_)
  simp (disch:=first|omega|rfl|apply_rules[jaa,jac,jad]) only [go_sem,jag,hs]
  exact qp0 hl ho d (i+1) (by omega) oj (fun hk x4 x5 x6 x7 x8 x9 x10 x12 o' n' g'=>hQ hk x4 x5 x6 x7 x8 x9 x10 x12 o' (by omega) (fun n hn=>(g' n (by omega)).trans ((gj n (by omega)).trans (gA n hn))))
theorem qp1 {l:List Ms.Blk} {ps dep:List Nat} (hdl:dep.length=l.length) (hl:l.length<=1000) (ho:∀ (k:Nat) (b:Ms.Blk),l[k]?=some b->b.instrs.length<=40/\∀ x∈b.instrs,x.ops.length<=6/\∀ o∈x.ops,o.value<ps.length/\pw (dep.getD k 0)<=ps.getD o.value 0) {bT:Nat} {x0 x1 x3:AV} {Q:Ex->St->Prop} :
 ∀ (d i:Nat) (_:i+d=l.length) {hi:Hp} (_:Ok hi) (_:bT<hi.next) (_:hi.get bT=some (.arr [O,I,jah jas dep] 36)) {x4 x5 x6 x7 x8 x9 x10 x11 x12 x13 x14 x15 x16 x17 x18 x19 x21:AV}
  (hQ:∀ hj x4 x5 x6 x7 x8 x9 x10 x11 x12 x13 x14 x15 x16 x17 x18 x19 x21,Q (.exit 0) (.mk [x0,x1,x2,x3,x4,x5,x6,x7,x8,x9,x10,x11,x12,x13,x14,x15,x16,x17,x18,x19,.s (jah ja3 l),x21,vi l.length,vi l.length,x24,.s (.ptr bT 0),.s (jah jas ps),x27,x28,x29,x30] hj)),
  W FP2 jva.loop (.mk [x0,x1,x2,x3,x4,x5,x6,x7,x8,x9,x10,x11,x12,x13,x14,x15,x16,x17,x18,x19,.s (jah ja3 l),x21,vi l.length,vi i,x24,.s (.ptr bT 0),.s (jah jas ps),x27,x28,x29,x30] hi) Q
 | 0,i,hd,hi,ok,hbT,xT,x4,x5,x6,x7,x8,x9,x10,x11,x12,x13,x14,x15,x16,x17,x18,x19,x21,hQ=>by
  obtain rfl:i=l.length:=by omega
  rw [jam]
  unfold jva
  simp (disch:=first|omega|rfl|apply_rules[jaa,jac,jad]) only [go_sem,f04]
  exact hQ ..
 | d+1,i,hd,hi,ok,hbT,xT,x4,x5,x6,x7,x8,x9,x10,x11,x12,x13,x14,x15,x16,x17,x18,x19,x21,hQ=>by
  have hlt:(i:Int)<(l.length:Int):=by omega
  have hs:(i:Int)+1=((i+1:Nat):Int):=by omega
  obtain ⟨b,hu⟩:∃ u,l[i]?=some u:=⟨_,f0b (by omega)⟩
  obtain ⟨h1,h2⟩:=ho i b hu
  obtain ⟨dd,hdd⟩:∃ u,dep[i]?=some u:=⟨_,f0b (by omega)⟩
  have hgd:dep.getD i 0=dd:=by rw [f0d,hdd];rfl
  rw [hgd] at h2
  have hix:=jaj (enc:=ja3) (size:=3) hu rfl
  have li:=jak (enc:=jdv) (l:=b.instrs)
  obtain ⟨hA,eA,okA,nA,xA,gA⟩:=jcl ok [.nilSlice,.nilSlice,.nilSlice] (ja3 b) 42
  have tA:=(gA _ hbT).trans xT
  unfold ja3 at xA eA
  rw [jam]
  unfold jva j9k
  simp (disch:=first|omega|rfl|apply_rules[jaa,jac,jad]) only [go_sem,jag,eq_true hlt,hix,ja3,eA,xA]
  refine qpy hdd okA tA (fun x17=>?_) (min dd 4) 0 (by omega)
  simp (disch:=first|omega|rfl|apply_rules[jaa,jac,jad]) only [go_sem,xA,li]
  refine qp0 (l:=b.instrs) (w:=pw dd) (by omega) h2 b.instrs.length 0 (by omega) okA (fun hj x4 x5 x6 x7 x8 x9 x10 x12 oj nj gj=>?_)
  simp (disch:=first|omega|rfl|apply_rules[jaa,jac,jad]) only [go_sem,jag,hs]
  exact qp1 hdl hl ho d (i+1) (by omega) oj (by omega) ((gj _ (by omega)).trans tA) hQ
theorem qlm {h:Hp} (ok:Ok h) {l:List Pc} (ha:In6 a) (hb:In6 b) (pin:∀ q∈l,Pin q) (lx:LstE jb3 7 xl l):WC FP2 3 [vi a,vi b,.s xl] h (fun v _=>v=.s (.bool true)):=by
 refine jbf ((qb5 rfl rfl).trans (qsv rfl rfl rfl rfl rfl rfl rfl rfl rfl rfl rfl rfl)) qsy rfl ?_
 unfold qd9
 obtain ⟨m1,m2⟩:=qgh a b
 obtain ⟨m,em⟩:∃ m,jua a b=m:=⟨_,rfl⟩
 rw [em] at m1 m2
 obtain ⟨s,o,_,_⟩:=qle m1 m2 l
 obtain ⟨f,ef⟩:∃ f,jfm m l=f:=⟨_,rfl⟩
 rw [ef] at o
 have hpos:=ok.pos
 have vo:=qpx o.k
 have nb:=vo.nb
 have hlen:=o.len
 have hdl:=j9o o.hs
 have hpl:(jfi f (jku s)).length=f.values.length:=by
  have:∀ (l:List Ms.Blk) (k:Nat) (vs:List Nat),(prF (jku s) l k vs).length=vs.length:=by
   intro l
   induction l with
   | nil=>intro k vs;rfl
   | cons b l ih=>intro k vs;exact (ih (k+1) _).trans (jvb _ _ _)
  exact (this _ _ _).trans (by simp)
 have hge:∀ (k:Nat) (b:Ms.Blk),f.blocks[k]?=some b->b.instrs.length<=40/\∀ x∈b.instrs,x.ops.length<=6/\∀ o∈x.ops,o.value<(jfi f (jku s)).length/\pw ((jku s).getD k 0)<=(jfi f (jku s)).getD o.value 0:=fun k b hk=>by
  obtain ⟨_,p2,_,_,p5,_⟩:=vo.blk b (f0c hk)
  refine ⟨p2,fun x hx=>⟨(p5 x hx).1,fun o ho=>⟨by rw [hpl];exact (p5 x hx).2 o ho,?_⟩⟩⟩
  have:=qec (jku s) o.value f.blocks 0 k (List.replicate f.values.length 0) b hk (by
   unfold qb2 qeb
   simp only [f0g,List.mem_flatten,f10]
   exact .inr (.inl ⟨_,⟨x,hx,rfl⟩,f10.2 ⟨o,ho,rfl⟩⟩)) (by simpa using (p5 x hx).2 o ho)
  rwa [f0i] at this
 obtain ⟨hA,eA,okA,nA,xA,gA⟩:=jcl ok [.int .i64 0,.int .i64 0] [si m.1,si m.2] 25
 obtain ⟨hB,eB,okB,nB,xB,gB⟩:=jcl okA [.nilSlice,.nilSlice] [jah jas f.values,jah ja3 f.blocks] 30
 obtain ⟨hC,eC,okC,nC,xC,gC⟩:=jcl okB [.nilSlice,.nilSlice,.nilSlice] [jah jas (jqn s 0),jah jjl (jem s),jah jas (jku s)] 36
 have yA:=(gB _ (by omega)).trans xA
 have zB:=(gC _ (by omega)).trans xB
 have nb2:hB.next=h.next+2:=by omega
 rw [nA] at eB xB zB
 rw [nb2] at eC xC
 obtain ⟨ps,eps⟩:∃ ps,jfi f (jku s)=ps:=⟨_,rfl⟩
 rw [eps] at hpl hge
 have lp:=jak (enc:=jas) (l:=ps)
 have lv:=jak (enc:=jas) (l:=f.values)
 have ld:=jak (enc:=jas) (l:=jku s)
 have lb:=jak (enc:=ja3) (l:=f.blocks)
 have c1:((ps.length:Int)≠(f.values.length:Int))=False:=eq_false (by omega)
 have c2:(((jku s).length:Int)≠(f.blocks.length:Int))=False:=eq_false (by omega)
 simp (disch:=first|omega|rfl|apply_rules[jaa,jac,jad]) only [go_sem,jxl ha hb,em,qm9,eA,nA,xA,j9q m1 m2 pin lx,ef,qf1,eB,yA,xB,qll o m1 m2,eps,prA,qb6 o m1 m2,jz2,jzx,nb2,eC,zB,xC,lp,lv,ld,lb,c1,c2]
 unfold j9l
 simp (disch:=first|omega|rfl|apply_rules[jaa,jac,jad]) only [go_sem,zB,lb]
 refine qp1 (l:=f.blocks) (ps:=ps) (dep:=jku s) (by omega) (by omega) hge f.blocks.length 0 (by omega) okC (by omega) xC (fun hj x4 x5 x6 x7 x8 x9 x10 x11 x12 x13 x14 x15 x16 x17 x18 x19 x21=>?_)
 simp (disch:=first|omega|rfl|apply_rules[jaa,jac,jad]) only [go_sem]
end Go.Proofs.Ytehhjbfmjdlcjaa.Ev
