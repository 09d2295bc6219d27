/- Code of functions as the interpreter has it prepared, cut at loops. -/
import Derived.Test.YtokcdoklcbgigaaUi
import Derived.Test.YtokcdoklcbgigaaOx
import Derived.Test.YtokcdoklcbgigaaUe
namespace Go.Proofs.Ytokcdoklcbgigaa.Ev
open Go Go.RowKit
set_option linter.all false
set_option maxRecDepth 100000
def qal:IC:=(.seq (.block 1 (.seq (.region [(qP (.ixs 1 (.g 4) (.g 7))),(qA (.load 1 false (.l 0))),(qQ 2 (.mv (.l 0)))]) (.region [(qP (.mv (.g 3))),(qP (.bin .mul (.l 0) (qC 31))),(qP (.mv (.g 2))),(qP (.bin .rem (.l 0) (qC 1000003))),(qP (.bin .add (.l 2) (.l 0))),(qP (.bin .add (.l 0) (qC 1000003))),(qP (.bin .rem (.l 0) (qC 1000003))),(qQ 3 (.mv (.l 0)))]))) (.region [(qP (.bin .add (.g 7) (qC 1))),(qQ 7 (.mv (.l 0)))]))
def jve:IC:=(.seq (.region [(qQ 5 (.bin .lt (.g 7) (.g 6)))]) (.seq (.cond (.g 5) .skip (.exit 0)) qal))
def qgd:IC:=(.seq (.region [(qQ 1 (.mv (qC 0)))]) (.seq (.region [(qQ 3 (.mv (qC 7)))]) (.seq (.seq (.region [(qQ 4 (.mv (.g 0))),(qQ 6 (.len (.l 0))),(qQ 7 (.mv (qC 0)))]) (.block 0 (.loop jve))) (.seq (.region [(qP (.mv (.g 3))),(qQ 1 (.mv (.l 0)))]) .ret))))
theorem qtn:T 62=some (.mk qgd 1 7 [(.tmp 1)]):=by kernel_rfl
def j3b:IC:=(.seq (.region [(qB 5 (.box 57 (.g 1))),(qQ 4 (.mv (qC 0)))]) (.seq (.region [(qP (.mv (.g 0))),(qP (.fld 0 (.g 5))),(qA (.load 1 false (.l 0))),(qP (.mv (.g 2))),(qA (.bslice 3 1 [(.int .i64 0),(.int .i64 0),(.int .i64 0)] 3 [(0,(1,(.l 3))),(1,(1,(.l 1))),(2,(1,(.l 0)))])),(qP (.mv (.g 3))),(qA (.app 3 1 8 (.l 1) (.l 0))),(qA (.call 62 [(.l 0)])),(qQ 4 (.mv (.l 0)))]) .ret))
theorem qmt:T 46=some (.mk j3b 4 2 [(.tmp 4)]):=by kernel_rfl
def j3c:IC:=(.draw [((qP (.mv (.g 0))),.none),((qP (.fld 1 (.g 7))),.none),((qA (.load 1 false (.l 0))),(.some [])),((qP (.mv (.g 2))),.none),((qP (.ixs 3 (.l 1) (.l 0))),.none),((qP (.fld 0 (.l 0))),.none),((qA (.load 1 false (.l 0))),(.some [])),((qA (.bslice 3 1 [(.int .i64 0),(.int .i64 0),(.int .i64 0)] 3 [(0,(1,(.l 6))),(1,(1,(.l 0))),(2,(1,(qC (-1))))])),(.some [])),((qP (.mv (.g 3))),.none),((qA (.app 3 1 8 (.l 1) (.l 0))),(.some [])),((qA (.call 62 [(.l 0)])),(.some [])),((qP (.fld 2 (.g 7))),.none),((qA (.load 1 false (.l 0))),(.some [1,2,4,5,9])),((qP (.len (.l 0))),.none),((qP (.bin .rem (.l 3) (.l 0))),.none),((qQ 4 (.mv (.l 0))),.none)])
def qam:IC:=(.seq (.region [(qB 7 (.box 36 (.g 1))),(qQ 4 (.mv (qC 0)))]) (.seq (.block 0 (.seq (.region [(qP (.mv (.g 2))),(qP (.bin .lt (.l 0) (qC 0))),(qP (.mv (.l 0))),(qR 0 false (.mv (.g 2))),(qR 1 false (.fld 1 (.g 7))),(qS 2 false (.load 1 false (.l 0))),(qR 3 false (.len (.l 0))),(qR 4 false (.bin .sub (.l 0) (qC 1))),(qR 5 false (.bin .ne (.l 4) (.l 0))),(qP (.pick (.l 6) (.c (.s (.bool true))) (.l 0))),(qP (.mv (.l 0))),(qR 0 false (.fld 2 (.g 7))),(qS 1 false (.load 1 false (.l 0))),(qR 2 false (.len (.l 0))),(qR 3 false (.bin .eq (.l 0) (qC 0))),(qP (.pick (.l 4) (.c (.s (.bool true))) (.l 0))),(qQ 6 (.mv (.l 0)))]) (.cond (.g 6) (.seq (.region [(qQ 4 (.mv (qC (-1))))]) .ret) (.seq (.region [(qP (.fld 2 (.g 7))),(qA (.load 1 false (.l 0))),(qP (.len (.l 0))),(qP (.bin .eq (.l 0) (qC 1))),(qQ 5 (.mv (.l 0)))]) (.cond (.g 5) (.seq (.region [(qQ 4 (.mv (qC 0)))]) .ret) .skip))))) (.seq j3c .ret)))
theorem qqr:T 47=some (.mk qam 4 4 [(.tmp 4)]):=by kernel_rfl
def j3d:IC:=(.seq (.region [(qQ 1 (.mv (.c (.s (.bool false)))))]) (.seq (.region [(qP (.mv (.g 0))),(qP (.nchk (.l 0))),(qP (.fld 3 (.l 0))),(qA (.load 1 false (.l 0))),(qP (.bin .sub (.l 0) (qC 1))),(qP (.nchk (.l 4))),(qP (.fld 3 (.l 0))),(qA (.store 1 (.l 0) (.l 2)))]) (.seq (.region [(qP (.mv (.g 0))),(qP (.nchk (.l 0))),(qP (.fld 3 (.l 0))),(qA (.load 1 false (.l 0))),(qP (.bin .ge (.l 0) (qC 0))),(qQ 1 (.mv (.l 0)))]) .ret)))
theorem qmu:T 25=some (.mk j3d 1 1 [(.tmp 1)]):=by kernel_rfl
def j3e:IC:=(.seq (.block 1 (.seq (.region [(qP (.ixs 5 (.g 15) (.g 18))),(qA (.load 5 true (.l 0))),(qB 14 (.new 59 [(.int .i64 0),(.int .i64 0),(.bool false),(.int .i64 0),(.int .i64 0)])),(qA (.store 5 (.l 0) (.l 1)))]) (.seq (.region [(qP (.fld 0 (.g 14))),(qA (.load 1 false (.l 0))),(qQ 13 (.bin .eq (.l 0) (qC 1)))]) (.cond (.g 13) (.draw [((qP (.mv (.g 12))),.none),((qP (.mv (.g 0))),.none),((qP (.nchk (.l 0))),.none),((qP (.fld 4 (.l 0))),.none),((qA (.load 1 false (.l 0))),(.some [])),((qP (.fld 1 (.g 14))),.none),((qA (.load 1 false (.l 0))),(.some [1])),((qP (.ixs 1 (.l 2) (.l 0))),.none),((qA (.load 1 false (.l 0))),.none),((qA (.bslice 3 1 [(.int .i64 0)] 1 [(0,(1,(.l 0)))])),.none),((qA (.app 3 1 8 (.l 9) (.l 0))),.none),((qQ 12 (.mv (.l 0))),.none)]) .skip)))) (.region [(qP (.bin .add (.g 18) (qC 1))),(qQ 18 (.mv (.l 0)))]))
def jnh:IC:=(.seq (.region [(qQ 16 (.bin .lt (.g 18) (.g 17)))]) (.seq (.cond (.g 16) .skip (.exit 0)) j3e))
def j3f:IC:=(.seq (.block 3 (.seq (.region [(qP (.mv (.g 11))),(qP (.ixs 5 (.g 8) (.g 11))),(qA (.load 5 true (.l 0))),(qB 7 (.new 59 [(.int .i64 0),(.int .i64 0),(.bool false),(.int .i64 0),(.int .i64 0)])),(qQ 5 (.mv (.l 3))),(qA (.store 5 (.l 1) (.l 2)))]) (.seq (.region [(qP (.fld 0 (.g 7))),(qA (.load 1 false (.l 0))),(qQ 6 (.bin .eq (.l 0) (qC 2)))]) (.cond (.g 6) (.draw [((qP (.mv (.g 0))),.none),((qP (.nchk (.l 0))),.none),((qP (.fld 4 (.l 0))),.none),((qA (.load 1 false (.l 0))),(.some [])),((qP (.fld 1 (.g 7))),.none),((qA (.load 1 false (.l 0))),(.some [1])),((qP (.mv (.g 0))),.none),((qP (.nchk (.l 0))),.none),((qP (.fld 2 (.l 0))),.none),((qA (.load 1 false (.l 0))),(.some [3,5])),((qA (.load 3 true (.g 19))),(.some [0,4,6])),((qP (.mv (.g 5))),.none),((qP (.mv (.g 12))),.none),((qA (.call 46 [(.l 3),(.l 2),(.l 1),(.l 0)])),(.some [7,9])),((qP (.ixs 1 (.l 10) (.l 8))),.none),((qA (.store 1 (.l 0) (.l 1))),.none)]) .skip)))) (.region [(qP (.bin .add (.g 11) (qC 1))),(qQ 11 (.mv (.l 0)))]))
def jni:IC:=(.seq (.region [(qQ 9 (.bin .lt (.g 11) (.g 10)))]) (.seq (.cond (.g 9) .skip (.exit 2)) j3f))
def qan:IC:=(.seq (.region [(qQ 3 (.mv (qC 0)))]) (.seq (.region [(qP (.mv (.g 0))),(qP (.nchk (.l 0))),(qP (.fld 0 (.l 0))),(qP (.fld 1 (.l 0))),(qA (.load 1 false (.l 0))),(qP (.mv (.g 1))),(qP (.ixs 3 (.l 1) (.l 0))),(qP (.fld 1 (.l 0))),(qA (.load 1 false (.l 0))),(qP (.mv (.g 2))),(qP (.ixs 3 (.l 1) (.l 0))),(qA (.load 3 true (.l 0))),(qB 19 (.new 57 [(.int .i64 0),.nilSlice,.nilSlice])),(qA (.store 3 (.l 0) (.l 1)))]) (.seq (.region [(qQ 12 (.mv (.c (.s .nilSlice))))]) (.seq (.seq (.region [(qP (.fld 1 (.g 19))),(qB 15 (.load 1 false (.l 0))),(qQ 17 (.len (.l 0))),(qQ 18 (.mv (qC 0)))]) (.block 0 (.loop jnh))) (.seq (.seq (.region [(qP (.fld 1 (.g 19))),(qB 8 (.load 1 false (.l 0))),(qQ 10 (.len (.l 0))),(qQ 11 (.mv (qC 0)))]) (.block 2 (.loop jni))) (.seq (.draw [((qP (.mv (.g 0))),.none),((qP (.nchk (.l 0))),.none),((qP (.fld 2 (.l 0))),.none),((qA (.load 1 false (.l 0))),(.some [])),((qP (.mv (.g 0))),.none),((qP (.nchk (.l 0))),.none),((qP (.fld 0 (.l 0))),.none),((qP (.fld 1 (.l 0))),.none),((qA (.load 1 false (.l 0))),(.some [4])),((qP (.mv (.g 1))),.none),((qP (.ixs 3 (.l 1) (.l 0))),.none),((qA (.load 3 true (.l 0))),(.some [7])),((qP (.mv (.g 2))),.none),((qP (.mv (.g 12))),.none),((qA (.call 47 [(.l 10),(.l 2),(.l 1),(.l 0)])),.none),((qQ 4 (.mv (.l 0))),.none)]) (.seq (.region [(qP (.mv (.g 0))),(qP (.mv (.g 0))),(qP (.nchk (.l 0))),(qP (.fld 5 (.l 0))),(qA (.load 1 false (.l 0))),(qP (.mv (.g 1))),(qP (.mv (.g 2))),(qP (.mv (.g 12))),(qP (.mv (.g 4))),(qP (.build [(.int .i64 0),(.int .i64 0),.nilSlice,(.int .i64 0)] [(0,(1,(.l 3))),(1,(1,(.l 2))),(2,(1,(.l 1))),(3,(1,(.l 0)))])),(qA (.bslice 51 4 [(.int .i64 0),(.int .i64 0),.nilSlice,(.int .i64 0)] 1 [(0,(4,(.l 0)))])),(qA (.app 51 4 48 (.l 6) (.l 0))),(qP (.nchk (.l 11))),(qP (.fld 5 (.l 0))),(qA (.store 1 (.l 0) (.l 2)))]) (.seq (.region [(qP (.mv (.g 4))),(qQ 3 (.mv (.l 0)))]) .ret))))))))
theorem qqs:T 26=some (.mk qan 3 17 [(.tmp 3)]):=by kernel_rfl
def j3g:IC:=(.seq (.block 1 (.seq (.region [(qP (.ixs 1 (.g 10) (.g 13))),(qA (.load 1 false (.l 0))),(qQ 8 (.mv (.l 0)))]) (.region [(qP (.mv (.g 9))),(qP (.mv (.g 0))),(qP (.nchk (.l 0))),(qP (.fld 4 (.l 0))),(qA (.load 1 false (.l 0))),(qP (.mv (.g 8))),(qP (.ixs 1 (.l 1) (.l 0))),(qA (.load 1 false (.l 0))),(qA (.bslice 3 1 [(.int .i64 0)] 1 [(0,(1,(.l 0)))])),(qA (.app 3 1 8 (.l 8) (.l 0))),(qQ 9 (.mv (.l 0)))]))) (.region [(qP (.bin .add (.g 13) (qC 1))),(qQ 13 (.mv (.l 0)))]))
def jnj:IC:=(.seq (.region [(qQ 11 (.bin .lt (.g 13) (.g 12)))]) (.seq (.cond (.g 11) .skip (.exit 0)) j3g))
def j3h:IC:=(.seq (.block 3 (.seq (.region [(qP (.mv (.g 7))),(qP (.ixs 1 (.g 4) (.g 7))),(qA (.load 1 false (.l 0))),(qQ 2 (.mv (.l 2))),(qQ 3 (.mv (.l 1)))]) (.draw [((qP (.mv (.g 0))),.none),((qP (.nchk (.l 0))),.none),((qP (.fld 4 (.l 0))),.none),((qA (.load 1 false (.l 0))),(.some [])),((qP (.mv (.g 3))),.none),((qP (.mv (.g 9))),.none),((qP (.mv (.g 2))),.none),((qP (.ixs 1 (.l 1) (.l 0))),.none),((qA (.load 1 false (.l 0))),(.some [4])),((qP (.ixs 1 (.l 5) (.l 4))),.none),((qA (.store 1 (.l 0) (.l 1))),.none)]))) (.region [(qP (.bin .add (.g 7) (qC 1))),(qQ 7 (.mv (.l 0)))]))
def jnk:IC:=(.seq (.region [(qQ 5 (.bin .lt (.g 7) (.g 6)))]) (.seq (.cond (.g 5) .skip (.exit 2)) j3h))
def qao:IC:=(.seq (.region [(qB 14 (.box 53 (.g 1)))]) (.seq (.region [(qQ 9 (.mv (.c (.s .nilSlice))))]) (.seq (.seq (.region [(qP (.fld 1 (.g 14))),(qB 10 (.load 1 false (.l 0))),(qQ 12 (.len (.l 0))),(qQ 13 (.mv (qC 0)))]) (.block 0 (.loop jnj))) (.seq (.draw [((qP (.mv (.g 0))),.none),((qP (.nchk (.l 0))),.none),((qP (.fld 0 (.l 0))),.none),((qP (.fld 1 (.l 0))),.none),((qA (.load 1 false (.l 0))),(.some [])),((qP (.fld 0 (.g 14))),.none),((qA (.load 1 false (.l 0))),(.some [1])),((qP (.ixs 3 (.l 2) (.l 0))),.none),((qP (.fld 0 (.l 0))),.none),((qB 4 (.load 1 false (.l 0))),.none),((qQ 6 (.len (.l 0))),.none),((qQ 7 (.mv (qC 0))),.none)]) (.block 2 (.loop jnk))))))
theorem qqt:T 27=some (.mk qao 2 13 []):=by kernel_rfl
def j3i:IC:=(.draw [((qA (.load 2 true (.g 21))),(.some [])),((qP (.mv (.g 2))),.none),((qP (.mv (.g 3))),.none),((qP (.fld 0 (.g 21))),.none),((qA (.load 1 false (.l 0))),(.some [3])),((qP (.len (.l 0))),.none),((qA (.mkslice 3 1 8 [(.int .i64 0)] (.l 0) (.l 0))),(.some [5])),((qP (.build [.nilSlice,.nilSlice,(.int .i64 0),(.int .i64 0),.nilSlice,.nilSlice] [(0,(2,(.l 6))),(2,(1,(.l 5))),(3,(1,(.l 4))),(4,(1,(.l 0)))])),.none),((qA (.box 75 (.l 0))),.none),((qQ 16 (.mv (.l 0))),.none)])
def j3j:IC:=(.region [(qP (.mv (.g 16))),(qP (.mv (.g 14))),(qP (.mv (.g 9))),(qA (.call 26 [(.l 2),(.l 1),(.l 0)])),(qQ 7 (.mv (.l 0)))])
def j3k:IC:=(.seq (.block 3 (.seq (.region [(qP (.mv (.g 13))),(qQ 9 (.mv (.l 0)))]) (.seq (.seq (.region [(qP (.mv (.g 16))),(qA (.call 25 [(.l 0)])),(qQ 10 (.not (.l 0)))]) (.cond (.g 10) (.seq (.region [(qP (.mv (.g 16))),(qP (.nchk (.l 0))),(qP (.fld 5 (.l 0))),(qA (.load 1 false (.l 0))),(qQ 5 (.mv (.l 0))),(qQ 4 (.mv (qC 0)))]) .ret) .skip)) j3j))) (.region [(qP (.bin .add (.g 13) (qC 1))),(qQ 13 (.mv (.l 0)))]))
def jnl:IC:=(.seq (.region [(qQ 11 (.bin .lt (.g 13) (.g 12)))]) (.seq (.cond (.g 11) .skip (.exit 2)) j3k))
def j3l:IC:=(.seq (.region [(qP (.fld 1 (.g 21))),(qA (.load 1 false (.l 0))),(qP (.mv (.g 14))),(qP (.ixs 3 (.l 1) (.l 0))),(qP (.fld 2 (.l 0))),(qA (.load 1 false (.l 0))),(qP (.mv (.g 7))),(qP (.ixs 2 (.l 1) (.l 0))),(qA (.load 2 true (.l 0))),(qB 6 (.new 53 [(.int .i64 0),.nilSlice])),(qA (.store 2 (.l 0) (.l 1)))]) (.seq (.region [(qP (.mv (.g 16))),(qA (.load 2 true (.g 6))),(qA (.call 27 [(.l 1),(.l 0)]))]) (.region [(qP (.fld 0 (.g 6))),(qA (.load 1 false (.l 0))),(qQ 14 (.mv (.l 0)))])))
def j3m:IC:=(.block 1 (.seq (.region [(qQ 7 (.mv (qC 0)))]) (.seq (.seq (.region [(qP (.fld 1 (.g 21))),(qA (.load 1 false (.l 0))),(qP (.mv (.g 14))),(qP (.ixs 3 (.l 1) (.l 0))),(qP (.fld 1 (.l 0))),(qA (.load 1 false (.l 0))),(qQ 12 (.len (.l 0))),(qQ 13 (.mv (qC 0)))]) (.block 2 (.loop jnl))) (.seq (.seq (.region [(qP (.fld 1 (.g 21))),(qA (.load 1 false (.l 0))),(qP (.mv (.g 14))),(qP (.ixs 3 (.l 1) (.l 0))),(qP (.fld 2 (.l 0))),(qA (.load 1 false (.l 0))),(qP (.len (.l 0))),(qQ 8 (.bin .eq (.l 0) (qC 0)))]) (.cond (.g 8) (.exit 0) .skip)) j3l))))
def jnm:IC:=(.seq (.seq (.region [(qP (.mv (.g 16))),(qB 15 (.call 25 [(.l 0)]))]) (.cond (.g 15) .skip (.exit 0))) j3m)
def j3n:IC:=(.seq j3i (.seq (.seq (.region [(qQ 14 (.mv (qC 0)))]) (.block 0 (.loop jnm))) (.seq (.region [(qP (.mv (.g 16))),(qP (.nchk (.l 0))),(qP (.fld 5 (.l 0))),(qA (.load 1 false (.l 0))),(qQ 5 (.mv (.l 0))),(qQ 4 (.mv (qC 0)))]) .ret)))
def j3o:IC:=(.seq (.seq (.region [(qP (.mv (.g 3))),(qP (.bin .lt (.l 0) (qC 0))),(qP (.mv (.l 0))),(qR 0 false (.mv (.g 3))),(qR 1 false (.bin .gt (.l 0) (qC 5000))),(qQ 17 (.pick (.l 2) (.c (.s (.bool true))) (.l 0)))]) (.cond (.g 17) (.seq (.region [(qQ 5 (.mv (.c (.s .nilSlice)))),(qQ 4 (.mv (qC 2)))]) .ret) .skip)) j3n)
def qap:IC:=(.seq (.region [(qB 21 (.box 26 (.g 0))),(qB 20 (.box 30 (.g 1))),(qQ 5 (.mv (.c (.s .nilSlice)))),(qQ 4 (.mv (qC 0)))]) (.seq (.seq (.region [(qA (.load 2 true (.g 21))),(qA (.load 2 true (.g 20))),(qA (.call 11 [(.l 1),(.l 0)])),(qQ 19 (.mv (.l 0)))]) (.seq (.region [(qP (.mv (.g 19))),(qQ 18 (.bin .ne (.l 0) (qC 0)))]) (.cond (.g 18) (.seq (.region [(qP (.mv (.g 19))),(qQ 5 (.mv (.c (.s .nilSlice)))),(qQ 4 (.mv (.l 1)))]) .ret) .skip))) j3o))
theorem qqu:T 13=some (.mk qap 4 18 [(.tmp 5),(.tmp 4)]):=by kernel_rfl
end Go.Proofs.Ytokcdoklcbgigaa.Ev
namespace Go.Proofs.Ytokcdoklcbgigaa.Ms
set_option linter.all false
variable {f:Fc} {e seed:Int} {vs:List Int} {i k:Nat}
def H0 (l:List Blk):Prop:=∃ b,l[0]?=some b/\b.instrs≠[]
theorem H0.modify {l:List Blk} (h:H0 l) {f:Blk->Blk} (hf:∀ b,b.instrs≠[]->(f b).instrs≠[]):H0 (l.modify k f):=by
 obtain ⟨b,h1,h2⟩:=h
 by_cases e:k=0
 ·exact ⟨f b,by rw [f1b,h1,e];rfl,hf b h2⟩
 ·exact ⟨b,by rw [f1b,h1];simp [e],h2⟩
theorem H0.lay {w:Ms} (h:H0 w.blocks) (p:Pc):H0 (jcf w p).blocks:=by
 obtain ⟨h1,h2⟩:=jma w p
 unfold jcf
 simp only [h2]
 exact h.modify (fun b _=>by simp)
theorem H0.block {w:Ms} (h:H0 w.blocks) (cs:List Nat):H0 (jak w cs).blocks:=by
 obtain ⟨b,h1,h2⟩:=h
 exact ⟨b,by unfold jak;simp only;rw [f02 (f07.1 h1).1];exact h1,h2⟩
theorem H0.edge {w:Ms} (h:H0 w.blocks) (k to:Nat) (a:List Nat):H0 (jaz w k to a).blocks:=h.modify (fun b hb=>hb)
theorem H0.newest {w:Ms} (h:H0 w.blocks) (c:Nat) (p:Pc):H0 (jaf w c p).2.blocks:=by
 unfold jaf
 split
 ·exact h
 ·exact h.lay _
theorem H0.way {w:Ms} (h:H0 w.blocks) (p:Pc) (c n e k:Nat) (lay:Bool):H0 (jht p c n e k lay w).2.blocks:=by
 unfold jht
 simp only
 refine H0.edge ?_ _ _ _
 refine H0.newest ?_ _ _
 refine H0.newest ?_ _ _
 split
 ·exact H0.lay (w:={ w with cur:=k }) h _
 ·exact h
def J0 (w:Ms):Prop:=H0 w.blocks∨(w.cur=0/\w.known=[]/\0<w.blocks.length)
theorem J0.lay {w:Ms} (h:J0 w) (p:Pc):H0 (jcf w p).blocks:=by
 rcases h with h | ⟨h1,h2,h3⟩
 ·exact h.lay p
 ·obtain ⟨_,h4⟩:=jma w p
  have hr:=jqj w p
  unfold jcf
  simp only [hr.1,hr.2,h1]
  unfold jay
  refine ⟨{ w.blocks[0] with instrs:=w.blocks[0].instrs++[(ja2 w p).1] },?_,by simp⟩
  rw [f1b,f0b h3]
  simp
theorem J0.newest {w:Ms} (h:J0 w) (c:Nat) (p:Pc):H0 (jaf w c p).2.blocks:=by
 rcases h with h | ⟨h1,h2,h3⟩
 ·exact h.newest c p
 ·have:jpv w c (w.known.length - pk p.b 3)=none:=by
   rw [h2]
   simp [jpv]
  unfold jaf
  rw [this]
  exact J0.lay (.inr ⟨h1,h2,h3⟩) _
theorem J0.fork {w:Ms} (h:J0 w) (p:Pc):H0 (je9 w p).blocks:=by
 unfold je9
 simp only
 refine H0.way ?_ _ _ _ _ _ _
 refine H0.way ?_ _ _ _ _ _ _
 exact ((((h.lay p).block []).block []).block [pk p.c 2,0]).edge _ _ _ |>.edge _ _ _
theorem J0.loop {w:Ms} (h:J0 w) (p:Pc):H0 (jfa w p).blocks:=by
 unfold jfa
 simp only
 refine H0.edge ?_ _ _ _
 refine H0.newest ?_ _ _
 refine H0.newest ?_ _ _
 refine H0.lay ?_ _
 refine H0.edge ?_ _ _ _
 refine H0.edge ?_ _ _ _
 refine H0.block ?_ _
 refine H0.block ?_ _
 refine H0.lay ?_ _
 refine H0.edge ?_ _ _ _
 refine H0.block ?_ _
 refine H0.newest ?_ _ _
 exact h.newest _ _
theorem J0.piece {w:Ms} (h:J0 w) (p:Pc):J0 (jbp w p):=by
 unfold jbp
 simp only
 split
 ·exact .inl (h.fork p)
 ·split
  ·exact .inl (h.loop p)
  ·split
   ·exact .inl (h.lay p)
   ·exact h
theorem J0.foldl:∀ {l:List Pc} {w:Ms},J0 w->J0 (l.foldl jbp w)
 | [],_,h=>h
 | p::l,w,h=>J0.foldl (l:=l) (h.piece p)
theorem jsf (m:Nat×Nat) (l:List Pc):H0 (jer m l).blocks:=by
 unfold jer
 simp only
 exact J0.lay (J0.foldl (.inr ⟨rfl,rfl,by simp [jbs]⟩)) _
def qge (x n:Int):Int:=(x*31+n.tmod 1000003+1000003) % 1000003
def j5g (l:List Int):Int:=l.foldl qge 7
theorem qaq (x n:Int):0<=qge x n/\qge x n<1000003:=⟨f3d _ (by omega),f29 _ (by omega)⟩
theorem j3p:∀ (l:List Int) (x:Int),0<=x/\x<1000003->0<=l.foldl qge x/\l.foldl qge x<1000003
 | [],x,h=>h
 | n::l,x,h=>j3p l _ (qaq x n)
theorem j0t (l:List Int):0<=j5g l/\j5g l<1000003:=j3p l 7 (by omega)
def j0u (seed:Int) (x:Ins) (k:Nat) (rd:List Int):Int:=j5g ([seed,(x.op:Int),(k:Int)]++rd)
def jds (seed:Int) (b:Blk) (i:Nat) (x:Ins) (rd:List Int):Int :=
 if i+1≠b.instrs.length then -1 else if b.edges.length=0 then -1 else if b.edges.length=1 then 0 else j5g ([seed,(x.op:Int),-1]++rd) % (b.edges.length:Int)
def rdF (vs:List Int) (l:List Int) (o:Opd):List Int:=if o.kind=1 then l++[vs.getD o.value 0] else l
def j0v (ops:List Opd) (vs:List Int):List Int:=ops.foldl (rdF vs) []
def j0w (seed:Int) (x:Ins) (rd:List Int):List Opd->Nat->List Int->List Int
 | [],_,vs=>vs
 | o::r,k,vs=>j0w seed x rd r (k+1) (if o.kind=2 then vs.set o.value (j0u seed x k rd) else vs)
structure Evt where
 block:Nat
 at_:Nat
 read:List Int
 edge:Int
def jjp (seed:Int) (k:Nat) (b:Blk) (i:Nat) (x:Ins) (vs:List Int):Evt×List Int :=
 let rd:=j0v x.ops vs
 (⟨k,i,rd,jds seed b i x rd⟩,j0w seed x rd x.ops 0 vs)
def qbp:List Nat->List Int->List Int->List Int
 | p::ps,x::xs,vs=>qbp ps xs (vs.set p x)
 | _,_,vs=>vs
def qbq (f:Fc) (d:Edg) (vs:List Int):List Int:=qbp (f.blocks.getD d.block jdf).params (d.args.map (fun v=>vs.getD v 0)) vs
def goS (f:Fc) (seed:Int):Nat->Nat->Nat->List Int->Int->List Evt
 | 0,_,_,_,_=>[]
 | n+1,k,i,vs,e =>
  match (f.blocks.getD k jdf).instrs[i]? with
  | some x=>(jjp seed k (f.blocks.getD k jdf) i x vs).1::goS f seed n k (i+1) (jjp seed k (f.blocks.getD k jdf) i x vs).2 (jjp seed k (f.blocks.getD k jdf) i x vs).1.edge
  | none =>
   match (f.blocks.getD k jdf).edges[e.toNat]? with
   | none=>[]
   | some d=>goS f seed n d.block 0 (qbq f d vs) 0
def jqt (f:Fc) (seed:Int) (steps:Nat):List Evt :=
 match steps with
 | 0=>[]
 | n+1=>goS f seed n 0 0 (List.replicate f.values.length 0) 0
theorem jvf (f:Fc) (seed:Int):∀ (n k i:Nat) (vs:List Int) (e:Int),(goS f seed n k i vs e).length<=n
 | 0,_,_,_,_=>by simp [goS]
 | n+1,k,i,vs,e=>by
  unfold goS
  split
  ·exact Nat.succ_le_succ (jvf f seed n _ _ _ _)
  ·split
   ·simp
   ·exact f18 (jvf f seed n _ 0 _ 0)
theorem j0x (f:Fc) (seed:Int) (j:Nat):∀ (n k i:Nat) (vs:List Int) (e:Int),goS f seed n k i vs e <+: goS f seed (n+j) k i vs e
 | 0,_,_,_,_=>by simp [goS]
 | n+1,k,i,vs,e=>by
  rw [show n+1+j=(n+j)+1 by omega]
  unfold goS
  split
  ·exact List.cons_prefix_cons.2 ⟨rfl,j0x f seed j n _ _ _ _⟩
  ·split
   ·exact List.nil_prefix
   ·exact j0x f seed j n _ _ _ _
def j3q (f:Fc) (vs:List Int):Prop:=vs.length=f.values.length/\∀ v∈vs,0<=v/\v<1000003
theorem j3q.set (h:j3q f vs) {v:Int} (hv:0<=v/\v<1000003):j3q f (vs.set i v) :=
 ⟨by rw [f2u];exact h.1,fun u hu=>by
  rcases List.mem_or_eq_of_mem_set hu with h1 | h1
  ·exact h.2 u h1
  ·rw [h1];exact hv⟩
theorem qar (h:∀ v∈vs,0<=v/\v<1000003) (i:Nat):0<=vs.getD i 0/\vs.getD i 0<1000003:=by
 rw [f0d]
 cases e:vs[i]? with
 | none=>simp
 | some v=>exact h v (f0c e)
theorem j3r (h:∀ v∈vs,0<=v/\v<1000003):∀ (ops:List Opd) (l:List Int),(∀ v∈l,0<=v/\v<1000003)->∀ v∈ops.foldl (rdF vs) l,0<=v/\v<1000003
 | [],l,hl=>hl
 | o::ops,l,hl=>j3r h ops _ (fun v hv=>by
  unfold rdF at hv
  split at hv
  ·rcases f0g.1 hv with h1 | h1
   ·exact hl v h1
   ·rw [f0w.1 h1];exact qar h _
  ·exact hl v hv)
theorem j3s {x:Ins} {rd:List Int}:∀ (ops:List Opd) (k:Nat) {vs:List Int},j3q f vs->j3q f (j0w seed x rd ops k vs)
 | [],_,_,h=>h
 | o::r,k,vs,h=>j3s r (k+1) (by
  split
  ·exact h.set (j0t _)
  ·exact h)
theorem qas:∀ (ps:List Nat) (xs:List Int) {vs:List Int},j3q f vs->(∀ v∈xs,0<=v/\v<1000003)->j3q f (qbp ps xs vs)
 | [],_,_,h,_=>by unfold qbp;exact h
 | _::_,[],_,h,_=>by unfold qbp;exact h
 | p::ps,x::xs,vs,h,hx=>by
  unfold qbp
  exact qas ps xs (h.set (hx x (by simp))) (fun v hv=>hx v (by simp [hv]))
theorem qmv {d:Edg} (h:j3q f vs):j3q f (qbq f d vs):=qas _ _ h (fun v hv=>by
 obtain ⟨u,_,rfl⟩:=f16.1 hv
 exact qar h.2 u)
theorem qdx {b:Blk} {x:Ins} (h:j3q f vs):j3q f (jjp seed k b i x vs).2:=j3s _ _ h
theorem j3t {b:Blk} {x:Ins} {rd:List Int} (hi:i+1=b.instrs.length) (hb:b.edges≠[]):0<=jds seed b i x rd/\jds seed b i x rd<(b.edges.length:Int):=by
 have hl:0<b.edges.length:=f1g.2 hb
 unfold jds
 rw [if_neg (by omega),if_neg (by omega)]
 split
 ·omega
 ·exact ⟨f3d _ (by omega),f29 _ (by omega)⟩
structure GoOk (f:Fc) (k i:Nat) (vs:List Int) (e:Int):Prop where
 vo:j3q f vs
 kb:k<f.blocks.length
 ib:i<=(f.blocks.getD k jdf).instrs.length
 eb:i=(f.blocks.getD k jdf).instrs.length->(f.blocks.getD k jdf).edges≠[]->0<=e/\e<((f.blocks.getD k jdf).edges.length:Int)
structure RnOk (f:Fc):Prop where
 nv:f.values.length<=160
 nb:f.blocks.length<=16
 blk:∀ b∈f.blocks,b.params.length<=5/\b.instrs.length<=40/\b.edges.length<=3
 par:∀ b∈f.blocks,1<b.edges.length->b.instrs≠[]
 edg:∀ b∈f.blocks,∀ d∈b.edges,∃ t,f.blocks[d.block]?=some t/\t.params.length=d.args.length/\(∀ v∈d.args,v<f.values.length)/\∀ v∈t.params,v<f.values.length
 ops:∀ b∈f.blocks,∀ x∈b.instrs,x.op<=255/\x.ops.length<=6/\∀ o∈x.ops,o.value<f.values.length
theorem RnOk.start (r:RnOk f) (hb:f.blocks≠[]):GoOk f 0 0 (List.replicate f.values.length 0) 0:=by
 have h0:0<f.blocks.length:=f1g.2 hb
 refine ⟨⟨by simp,fun v hv=>by rw [(List.mem_replicate.1 hv).2];omega⟩,h0,f13 _,fun _ he=>⟨by omega,by have:=f1g.2 he;omega⟩⟩
theorem GoOk.next (g:GoOk f k i vs e) {x:Ins} (hx:(f.blocks.getD k jdf).instrs[i]?=some x):GoOk f k (i+1) (jjp seed k (f.blocks.getD k jdf) i x vs).2 (jjp seed k (f.blocks.getD k jdf) i x vs).1.edge:=by
 have hi:=(f07.1 hx).1
 exact ⟨qdx g.vo,g.kb,by omega,fun h1 h2=>j3t h1 h2⟩
theorem GoOk.jump (r:RnOk f) (g:GoOk f k i vs e) {d:Edg} (hd:(f.blocks.getD k jdf).edges[e.toNat]?=some d):GoOk f d.block 0 (qbq f d vs) 0:=by
 have hb:f.blocks.getD k jdf∈f.blocks:=by
  rw [f0d,f0b g.kb]
  exact f2h g.kb
 obtain ⟨t,h1,_⟩:=r.edg _ hb d (f0c hd)
 exact ⟨qmv g.vo,(f07.1 h1).1,f13 _,fun _ he=>⟨by omega,by have:=f1g.2 he;omega⟩⟩
theorem qmw {m:Nat×Nat} (k:FcOk m f):RnOk f:=by
 refine ⟨k.nv,k.nb.2,k.blk,k.par,fun b hb d hd=>?_,fun b hb x hx=>?_⟩
 ·obtain ⟨h1,h2,t,h3,h4,h5⟩:=k.edg b hb d hd
  refine ⟨t,h3,?_,h2,h5⟩
  have:=congrArg List.length h4
  simpa using this
 ·have h1:=k.ins b hb x hx
  exact ⟨h1.op,h1.nops,fun o ho=>(h1.opd o ho).val⟩
end Go.Proofs.Ytokcdoklcbgigaa.Ms
namespace Go.Proofs.Ytokcdoklcbgigaa.Ev
open Go Go.RowKit Go.Proofs.Ytokcdoklcbgigaa.Ms
attribute [local go_sem] f0j f0o f0q decide_eq_true_eq decide_eq_false_iff_not f0e and_true true_and f0n f0m reduceCtorEq decide_true decide_false f0z f0u f0s f0i Option.some.injEq f0k not_true_eq_false not_false_eq_true Hp.next_push Hp.next_put f0t Int.reduceToNat Nat.reduceAdd Nat.reduceMul Nat.reduceEqDiff Int.reduceEq Int.reduceLT Int.reduceLE Int.reduceNeg Int.reduceAdd Int.reduceSub Int.reduceMul Int.reduceNe
attribute [local go_sem ↓] reduceIte
set_option linter.all false
set_option maxRecDepth 100000
set_option maxHeartbeats 2000000
variable {x0 x1 x2 x3 x4 x5 x6 x7 x8 x10 x11 x13 x14 x15 x17 x18 x19 x20:AV} {e:Int} {P:List SV} {j k n sz steps:Nat}
def EZ (row:List SV) (a:Int) (ns:List Nat):Prop:=row=[si a]/\ns=[]
theorem qat:∀ l:List Int,Rows 1 EZ (l.map jby) l []
 | []=>.nil
 | a::l=>.cons (ns:=[]) rfl ⟨rfl,rfl⟩ (qat l)
theorem qto (l:List Int):j01 1 (l.map jby)=some (l.map jby).flatten:=jx2 (fun r h=>by obtain ⟨a,_,rfl⟩:=f16.1 h;rfl)
theorem jx4 {h:Hp} (ok:Ok h) {c:Nat} {pre l:List Int} (hp:pre≠[]) (hc:h.get c=some (.arr (pre.map jby).flatten 3)) (hs:pre.length+l.length<=100000) :
 ∃ x' h2 c' ex,jmp h 3 1 8 (.s (.slice c 0 pre.length pre.length true 1)) (.s (jah jby l))=some (.s x',h2)/\Ok h2/\h.next<=h2.next/\(∀ n,n<h.next->h2.get n=h.get n)/\Sl h2 3 1 ex EZ x' (pre++l) [c']:=by
 cases l with
 | nil=>exact ⟨_,h,c,true,jqw,ok,f0f _,fun _ _=>rfl,.inr ⟨by simp [hp],c,pre.map jby,[],by simp,hc,by simpa using qat pre,rfl⟩⟩
 | cons a l =>
  obtain ⟨hA,eA,okA,nA,xA,gA⟩:=jet ok (((pre++(a::l)).map jby).flatten) 3
  have e1:((pre++(a::l)).map jby).flatten=(pre.map jby).flatten++((a::l).map jby).flatten:=by rw [f3e,f2k]
  have hfl:(pre.map jby).flatten.length=pre.length:=(qat pre).len.2.trans (by simp)
  refine ⟨.slice h.next 0 (pre++(a::l)).length (pre++(a::l)).length false 1,hA,h.next,false,?_,okA,by omega,gA,.inr ⟨by simp,h.next,_,[],rfl,xA,qat _,rfl⟩⟩
  show ob (j01 1 ((a::l).map jby)) (fun new=>oif (Nat.beq 1 1) (oif (Nat.ble (Nat.add pre.length (jcx ((a::l).map jby))) pre.length) _ (jkw 8 (Nat.add pre.length (jcx ((a::l).map jby))) (ji4 h 3 1 c 0 pre.length (jcx ((a::l).map jby)) true new))) none)=_
  rw [qto,jbj,f1l]
  have hb:Nat.ble (Nat.add pre.length (a::l).length) pre.length=false:=by
   cases e:Nat.ble (Nat.add pre.length (a::l).length) pre.length with
   | false=>rfl
   | true =>
    have h1:=f0p e
    have h2:Nat.add pre.length (a::l).length=pre.length+(l.length+1):=rfl
    omega
  show oif (Nat.ble (Nat.add pre.length (a::l).length) pre.length) _ (jkw 8 (Nat.add pre.length (a::l).length) (ji4 h 3 1 c 0 pre.length (a::l).length true ((a::l).map jby).flatten))=_
  rw [hb]
  show jkw 8 (pre.length+(a::l).length) (ji4 h 3 1 c 0 pre.length (a::l).length true ((a::l).map jby).flatten)=_
  rw [jth (by omega) (by omega)]
  show ob (h.get c) (fun x=>_)=_
  rw [hc]
  show ob (jbv (pre.length*1) (pre.map jby).flatten) (fun old=>nw h (jgq old ((a::l).map jby).flatten) 3 (fun k h=>Ev.ok (.s (.slice k 0 (pre.length+(a::l).length) (pre.length+(a::l).length) false 1)) h))=_
  rw [(jbb _).2 ⟨by rw [hfl];omega,by rw [List.take_of_length_le (by rw [hfl];omega)]⟩]
  show nw h (jgq (pre.map jby).flatten ((a::l).map jby).flatten) 3 (fun k h=>Ev.ok (.s (.slice k 0 (pre.length+(a::l).length) (pre.length+(a::l).length) false 1)) h)=_
  rw [jc1,←e1,jzd ok,eA,f09]
  rfl
section
variable {F:Fns}
theorem qtp (n:Int):-1000003<n.tmod 1000003/\n.tmod 1000003<1000003:=⟨Int.lt_tmod_of_pos n (by omega),Int.tmod_lt_of_pos n (by omega)⟩
theorem qgf {l:List Int} (hl:l.length<=1000000) (hin:∀ n∈l,In6 n) {r:Int} {Q:Ex->St->Prop} {h:Hp} (hQ:∀ x2 x5,Q (.exit 0) (.mk [x0,x1,x2,vi r,.s (jah jby l),x5,vi l.length,vi l.length] h)) :
 ∀ (d i:Nat) (_:i+d=l.length) (acc:Int) (_:0<=acc/\acc<1000003) (_:(l.drop i).foldl qge acc=r) {x2 x5:AV},
  W F jve.loop (.mk [x0,x1,x2,vi acc,.s (jah jby l),x5,vi l.length,vi i] h) Q
 | 0,i,hd,acc,ha,hr,x2,x5=>by
  obtain rfl:i=l.length:=by omega
  rw [List.drop_length] at hr
  subst hr
  rw [jam]
  unfold jve
  simp (disch:=first|omega|simp only[List.length]|apply_rules[jaa,jab,jad]) only [go_sem,f05]
  exact hQ _ _
 | d+1,i,hd,acc,ha,hr,x2,x5=>by
  have hlt:(i:Int)<(l.length:Int):=by omega
  have hil:i<l.length:=by omega
  obtain ⟨n,hn⟩:∃ n,l[i]?=some n:=⟨_,f0b hil⟩
  have hix:=jaj (enc:=jby) (size:=1) hn rfl
  have hs:(i:Int)+1=((i+1:Nat):Int):=by omega
  have hdr:l.drop i=n::l.drop (i+1):=by
   rw [f1p hil]
   congr 1
   exact (f07.1 hn).2
  rw [hdr,f15] at hr
  obtain ⟨hi1,hi2⟩:=hin n (f0c hn)
  have ht:=qtp n
  have hrem:jek .rem (.int .i64 n) (.int .i64 1000003)=some (vi (n.tmod 1000003)):=by
   rw [jtg,if_neg (by omega),jhg (by omega) (by omega)]
  have hmx:(acc*31+n.tmod 1000003+1000003) % 1000003=qge acc n:=rfl
  have hmi:=qaq acc n
  rw [jam]
  unfold jve qal
  simp (disch:=first|omega|simp only[List.length]|apply_rules[jaa,jab,jad]) only [go_sem,jag,eq_true hlt,hix,jby,hrem,hs,hmx]
  exact qgf hl hin hQ d (i+1) (by omega) (qge acc n) hmi hr
theorem qmx {k:Bool} {h:Hp} (ok:Ok h) {l:List Int} (hl:l.length<=1000000) (hin:∀ n∈l,In6 n) (hX:jc6 F 62 [.s (jah jby l)] h=none) (hT:qel F 62=T 62) :
 WC F 62 [.s (jah jby l)] h (fun v h'=>∃ d,jgb k h' d v=some (vi (j5g l))):=by
 refine jba hX (hT.trans qtn) rfl ?_
 unfold qgd
 have ll:=jai (enc:=jby) (l:=l)
 simp (disch:=first|omega|simp only[List.length]|apply_rules[jaa,jab,jad]) only [go_sem,ll]
 refine qgf hl hin (r:=j5g l) (fun x2 x5=>?_) l.length 0 (by omega) 7 (by omega) rfl
 simp (disch:=first|omega|simp only[List.length]|apply_rules[jaa,jab,jad]) only [go_sem]
 exact ⟨1,rfl⟩
end
def S15 (f:FuncId):Bool:=Nat.beq f 62
noncomputable def F15:Fns:=PX S15 F11
theorem qtq {A:Nat->Int}:Env Try.prog A tys F15:=jfr qtm
section
variable {h:Hp} {Q:AV->Hp->Prop} {x:SV} {l:List Int} {ns:List Nat} {ex:Bool}
theorem j3u (hl:l.length<=1000000) (hin:∀ n∈l,In6 n) (hne:l≠[]) (s:Sl h 3 1 ex EZ x l ns):jc6 F15 62 [.s x] h=some (vi (j5g l),h):=by
 refine jy2 rfl ?_ ⟨[.s (jah jby l)],2,?_,qmx jde hl hin (qrg rfl rfl rfl rfl rfl rfl rfl rfl rfl rfl rfl) rfl⟩
 ·rcases s with ⟨h1,_⟩ | ⟨_,c,rows,nss,h1,_⟩
  ·exact absurd h1 hne
  ·rw [h1];rfl
 ·show ob (jgb true h 2 (.s x)) _=_
  rw [show jgb true h 2 (.s x)=some (.s (jah jby l)) from jac.2 ⟨_,s.frz (enc:=jby) (d:=1) (fun row a ms e=>by
   obtain ⟨rfl,_⟩:=e
   rfl) (fun _=>rfl),rfl⟩]
  rfl
theorem qdy (hl:l.length<=1000000) (hin:∀ n∈l,In6 n) (hne:l≠[]) (s:Sl h 3 1 ex EZ x l ns):WC F15 62 [.s x] h Q=Q (vi (j5g l)) h:=jaq (j3u hl hin hne s)
theorem qau {lo:Nat} (ok:Ok h) (hl:l.length<=1000000) (hin:∀ n∈l,In6 n) (hne:l≠[]) (s:Sl h 3 1 ex EZ x l ns):WC F15 62 [.s x] (h.hide lo []) Q=Q (vi (j5g l)) (h.hide lo []) :=
 jaq (j3u hl hin hne (s.keep (fun n hn=>by rw [jdz ok,jaa];rfl)))
end
theorem qgg {n:Int} (h:0<=n/\n<1000003):In6 n:=⟨by omega,by omega⟩
theorem j3v {k:Bool} {h:Hp} (ok:Ok h) {seed:Int} (hs:In6 seed) {x:Ms.Ins} (hx:x.op<=255) (hj:j<=1000) {rd:List Int} (hr:∀ n∈rd,0<=n/\n<1000003) (hl:rd.length<=10000) :
 WC F15 46 [vi seed,.agg (jc7 x),vi j,.s (jah jby rd)] h (fun v h'=>∃ d,jgb k h' d v=some (vi (j0u seed x j rd))):=by
 refine jba ((ja4 rfl).trans (qrg rfl rfl rfl rfl rfl rfl rfl rfl rfl rfl rfl)) qmt rfl ?_
 unfold j3b
 have hin:∀ n∈[seed,(x.op:Int),(j:Int)]++rd,In6 n:=fun n hn=>by
  simp only [f0n,f0m,f0h] at hn
  rcases hn with rfl | rfl | rfl | hn
  ·exact hs
  ·exact ⟨by omega,by omega⟩
  ·exact ⟨by omega,by omega⟩
  ·exact qgg (hr n hn)
 obtain ⟨hA,eA,okA,nA,xA,gA⟩:=jet ok (jc7 x) 57
 obtain ⟨hB,eB,okB,nB,xB,gB⟩:=jet okA [si seed,si x.op,si j] 3
 obtain ⟨x',hC,c',ex,eC,okC,nC,gC,s⟩:=jx4 okB (pre:=[seed,(x.op:Int),(j:Int)]) (l:=rd) (by simp) xB (by simp;omega)
 unfold jc7 at eA xA
 have eC':jmp hB 3 1 8 (.s (.slice (h.next+1) 0 3 3 true 1)) (.s (jah jby rd))=some (.s x',hC):=by rw [←nA];exact eC
 simp (disch:=first|omega|simp only[List.length]|apply_rules[jaa,jab,jad]) only [go_sem,jc7,eA,nA,xA,eB,eC',qdy (by simp;omega) hin (by simp) s]
 exact ⟨1,rfl⟩
theorem jx5 {k:Bool} {h:Hp} (ok:Ok h) {seed:Int} (hs:In6 seed) {b:Ms.Blk} {i:Nat} {x:Ms.Ins} (hx:b.instrs[i]?=some x) (hop:x.op<=255) (hbi:b.instrs.length<=1000) (hbe:b.edges.length<=1000) {rd:List Int} (hr:∀ n∈rd,0<=n/\n<1000003) (hl:rd.length<=10000) :
 WC F15 47 [vi seed,.agg (ja0 b),vi i,.s (jah jby rd)] h (fun v h'=>∃ d,jgb k h' d v=some (vi (jds seed b i x rd))):=by
 refine jba ((ja4 rfl).trans (qrg rfl rfl rfl rfl rfl rfl rfl rfl rfl rfl rfl)) qqr rfl ?_
 unfold qam
 have hpos:=ok.pos
 have hil:=(f07.1 hx).1
 have li:=jai (enc:=jc7) (l:=b.instrs)
 have le:=jai (enc:=jfb) (l:=b.edges)
 obtain ⟨hA,eA,okA,nA,xA,gA⟩:=jet ok (ja0 b) 36
 unfold ja0 at eA xA
 have c0:((i:Int)<0)=False:=eq_false (by omega)
 by_cases h1:i+1=b.instrs.length
 ·have c1:((i:Int)≠(b.instrs.length:Int) - 1)=False:=eq_false (by omega)
  by_cases h2:b.edges.length=0
  ·have e:jds seed b i x rd=-1:=by unfold jds;rw [if_neg (by omega),if_pos h2]
   have c2:((b.edges.length:Int)=0)=True:=eq_true (by omega)
   simp (disch:=first|omega|simp only[List.length]|apply_rules[jaa,jab,jad]) only [go_sem,jag,ja0,eA,xA,li,le,c0,c1,c2]
   rw [e]
   exact ⟨1,rfl⟩
  ·have c2:((b.edges.length:Int)=0)=False:=eq_false (by omega)
   by_cases h3:b.edges.length=1
   ·have e:jds seed b i x rd=0:=by unfold jds;rw [if_neg (by omega),if_neg h2,if_pos h3]
    have c3:((b.edges.length:Int)=1)=True:=eq_true (by omega)
    simp (disch:=first|omega|simp only[List.length]|apply_rules[jaa,jab,jad]) only [go_sem,jag,ja0,eA,xA,li,le,c0,c1,c2,c3]
    rw [e]
    exact ⟨1,rfl⟩
   ·have e:jds seed b i x rd=j5g ([seed,(x.op:Int),-1]++rd) % (b.edges.length:Int):=by unfold jds;rw [if_neg (by omega),if_neg h2,if_neg h3]
    have c3:((b.edges.length:Int)=1)=False:=eq_false (by omega)
    simp (disch:=first|omega|simp only[List.length]|apply_rules[jaa,jab,jad]) only [go_sem,jag,ja0,eA,xA,li,le,c0,c1,c2,c3]
    have hin:∀ n∈[seed,(x.op:Int),-1]++rd,In6 n:=fun n hn=>by
     simp only [f0n,f0m,f0h] at hn
     rcases hn with rfl | rfl | rfl | hn
     ·exact hs
     ·exact ⟨by omega,by omega⟩
     ·exact ⟨by omega,by omega⟩
     ·exact qgg (hr n hn)
    have hix:=jaj (enc:=jc7) (size:=3) hx rfl
    obtain ⟨hB,eB,okB,nB,xB,gB⟩:=jet okA [si seed,si x.op,si (-1)] 3
    obtain ⟨x',hC,c',ex,eC,okC,nC,gC,s⟩:=jx4 okB (pre:=[seed,(x.op:Int),-1]) (l:=rd) (by simp) xB (by simp;omega)
    have hmi:=j0t ([seed,(x.op:Int),-1]++rd)
    obtain ⟨w,ew⟩:∃ w,j5g ([seed,(x.op:Int),-1]++rd)=w:=⟨_,rfl⟩
    rw [ew] at e hmi
    unfold j3c
    simp (disch:=first|omega|simp only[List.length]|apply_rules[jaa,jab,jad]) only [go_sem,jag,xA,hix,jc7,eB]
    rw [j0s okB okC rfl rfl rfl rfl xB eC]
    have yA:=(gC h.next (by omega)).trans ((gB _ (by omega)).trans xA)
    have hh1:(hA.next<=h.next/\h.next<hA.next+1)=False:=eq_false (by omega)
    have hh2:(hC.next<=h.next/\h.next<hC.next)=False:=eq_false (by omega)
    have hh3:(hB.next<=h.next/\h.next<hC.next)=False:=eq_false (by omega)
    have hh4:(hA.next<=h.next)=False:=eq_false (by omega)
    have hh5:(hB.next<=h.next)=False:=eq_false (by omega)
    have hh6:(hC.next<=h.next)=False:=eq_false (by omega)
    have ew':j5g (seed::(x.op:Int)::-1::rd)=w:=ew
    simp (disch:=first|omega|simp only[List.length]|apply_rules[jaa,jab,jad]) only [go_sem,jag,qau okC (by simp;omega) hin (by simp) s,ew',hh1,hh2,hh3,hh4,hh5,hh6,false_and,if_false,f0e,yA,le]
    rw [e]
    exact ⟨1,rfl⟩
 ·have c1:((i:Int)≠(b.instrs.length:Int) - 1)=True:=eq_true (by omega)
  have e:jds seed b i x rd=-1:=by unfold jds;rw [if_pos h1]
  simp (disch:=first|omega|simp only[List.length]|apply_rules[jaa,jab,jad]) only [go_sem,jag,ja0,eA,xA,li,le,c0,c1]
  rw [e]
  exact ⟨1,rfl⟩
set_option maxHeartbeats 4000000
def S16 (f:FuncId):Bool:=Nat.beq f 46||Nat.beq f 47
noncomputable def F16:Fns:=PX S16 F15
theorem qtr {A:Nat->Int}:Env Try.prog A tys F16:=jfr qtq
theorem qqv {f:FuncId} (h1:S1 f=false) (h2:Nat.beq f jex.f=false) (h3:S3 f=false) (h4:S4 f=false) (h5:S5 f=false) (h6:S6 f=false) (h7:S7 f=false) (h8:S8 f=false) (h9:S9 f=false) (h10:S10 f=false) (h11:S11 f=false) (h15:S15 f=false) (h16:S16 f=false) {vs:List AV} {h:Hp}:jc6 F16 f vs h=none:=(ja4 h16).trans ((ja4 h15).trans (qrg h1 h2 h3 h4 h5 h6 h7 h8 h9 h10 h11))
section
variable {h:Hp} {so:SV} {rd:List Int} {ns:List Nat} {ex:Bool} {Q:AV->Hp->Prop}
theorem qts {d:Nat} (s:Sl h 3 1 ex EZ so rd ns):jiv true h (d+2) so=some (jah jby rd):=s.frz (enc:=jby) (fun row a ms e=>by
 obtain ⟨rfl,_⟩:=e
 rfl) (fun _=>rfl)
theorem jc5 {k:Bool} {d:Nat} {a x:AV} {l r:List AV} (h1:jgb k h d a=some x) (h2:js1 k h d l=some r):js1 k h d (a::l)=some (x::r):=jac.2 ⟨x,h1,jac.2 ⟨r,h2,rfl⟩⟩
theorem qdz (s:Sl h 3 1 ex EZ so rd ns) {seed:Int} (hs:In6 seed) {x:Ms.Ins} (hx:x.op<=255) (hj:j<=1000) (hr:∀ n∈rd,0<=n/\n<1000003) (hl:rd.length<=10000):jc6 F16 46 [vi seed,.agg (jc7 x),vi j,.s so] h=some (vi (j0u seed x j rd),h):=by
 have s':=s
 rcases s' with ⟨rfl,rfl,_⟩ | ⟨_,c,rows,nss,rfl,_⟩
 ·exact jbf rfl (by simp only [jas,jav,ja6,jbx,jaw,ja7,ja5,jbh,ja8,jbc,if_true,jc7];rfl) (j3v jde hs hx hj hr hl)
 ·refine jy2 rfl ?_ ⟨[vi seed,.agg (jc7 x),vi j,.s (jah jby rd)],3,?_,j3v jde hs hx hj hr hl⟩
  ·simp only [jas,jav,ja6,jbx,jaw,ja7,ja5,jbh,ja8,jbc,if_true,jc7];rfl
  ·exact jc5 rfl (jc5 (jac.2 ⟨_,jbm rfl (jbm jku (jm6 jku)),rfl⟩) (jc5 rfl (jc5 (jac.2 ⟨_,qts s,rfl⟩) rfl)))
theorem qav (s:Sl h 3 1 ex EZ so rd ns) {seed:Int} (hs:In6 seed) {b:Ms.Blk} {i:Nat} {x:Ms.Ins} (hx:b.instrs[i]?=some x) (hop:x.op<=255) (hbi:b.instrs.length<=1000) (hbe:b.edges.length<=1000) (hr:∀ n∈rd,0<=n/\n<1000003) (hl:rd.length<=10000):jc6 F16 47 [vi seed,.agg (ja0 b),vi i,.s so] h=some (vi (jds seed b i x rd),h):=by
 have s':=s
 rcases s' with ⟨rfl,rfl,_⟩ | ⟨_,c,rows,nss,rfl,_⟩
 ·exact jbf rfl (by simp only [jas,jav,ja6,jbx,jaw,ja7,ja5,jbh,ja8,jbc,if_true,ja0];rfl) (jx5 jde hs hx hop hbi hbe hr hl)
 ·refine jy2 rfl ?_ ⟨[vi seed,.agg (ja0 b),vi i,.s (jah jby rd)],3,?_,jx5 jde hs hx hop hbi hbe hr hl⟩
  ·simp only [jas,jav,ja6,jbx,jaw,ja7,ja5,jbh,ja8,jbc,if_true,ja0];rfl
  ·exact jc5 rfl (jc5 (jac.2 ⟨_,jbm jku (jbm jku (jm6 jku)),rfl⟩) (jc5 rfl (jc5 (jac.2 ⟨_,qts s,rfl⟩) rfl)))
theorem j5a {lo:Nat} (ok:Ok h) (s:Sl h 3 1 ex EZ so rd ns) {seed:Int} (hs:In6 seed) {x:Ms.Ins} (hx:x.op<=255) (hj:j<=1000) (hr:∀ n∈rd,0<=n/\n<1000003) (hl:rd.length<=10000):WC F16 46 [vi seed,.agg (jc7 x),vi j,.s so] (h.hide lo []) Q=Q (vi (j0u seed x j rd)) (h.hide lo []) :=
 jaq (qdz (s.keep (fun n hn=>by rw [jdz ok,jaa];rfl)) hs hx hj hr hl)
theorem j5b (s:Sl h 3 1 ex EZ so rd ns) {seed:Int} (hs:In6 seed) {b:Ms.Blk} {i:Nat} {x:Ms.Ins} (hx:b.instrs[i]?=some x) (hop:x.op<=255) (hbi:b.instrs.length<=1000) (hbe:b.edges.length<=1000) (hr:∀ n∈rd,0<=n/\n<1000003) (hl:rd.length<=10000):WC F16 47 [vi seed,.agg (ja0 b),vi i,.s so] h Q=Q (vi (jds seed b i x rd)) h:=jaq (qav s hs hx hop hbi hbe hr hl)
end
def EVt (h:Hp) (row:List SV) (e:Evt) (ns:List Nat):Prop:=∃ a ex,row=[si e.block,si e.at_,a,si e.edge]/\Sl h 3 1 ex EZ a e.read ns
theorem EVt.keep {h h':Hp} {row:List SV} {e:Evt} {ns:List Nat} (k:EVt h row e ns) (hk:∀ n∈ns,h'.get n=h.get n):EVt h' row e ns:=by
 obtain ⟨a,ex,e1,s⟩:=k
 exact ⟨a,ex,e1,s.keep hk⟩
structure RS (lo:Nat) (h:Hp) (f:Fc) (seed:Int) (p vb:Nat) (left:Int) (vs:List Int) (es:SV) (evs:List Evt):Prop where
 ok:Ok h
 xp:h.get p=some (.arr [jah ja1 f.values,jah ja0 f.blocks,si seed,si left,.slice vb 0 f.values.length f.values.length true 1,es] 75)
 xv:h.get vb=some (.arr (vs.map jby).flatten 3)
 ev:Gs lo h 51 4 (EVt h) es evs
 hp:1<=p/\p<lo
 hv:1<=vb/\vb<lo
 pv:p≠vb
 hlo:lo<=h.next
section
variable {lo:Nat} {h:Hp} {f:Fc} {seed:Int} {p vb:Nat} {left:Int} {vs:List Int} {es:SV} {evs:List Evt}
theorem Gs.imp {h h':Hp} {α:Type} {ty:Nat} {E E':List SV->α->List Nat->Prop} {x:SV} {l:List α} (k:Gs lo h ty sz E x l) (hk:∀ n,lo<=n->n<h.next->h'.get n=h.get n) (hn:h.next<=h'.next) (hE:∀ row a ms,(∀ n∈ms,lo<=n/\n<h.next)->E row a ms->E' row a ms):Gs lo h' ty sz E' x l:=by
 obtain ⟨ns,s,nd,lt⟩:=k
 exact ⟨ns,s.imp (fun n hn=>hk n (lt n hn).1 (lt n hn).2) (fun row a ms hm e=>hE row a ms (fun n hn=>lt n (hm n hn)) e),nd,fun n hn'=>⟨(lt n hn').1,by have:=(lt n hn').2;omega⟩⟩
theorem RS.evk (r:RS lo h f seed p vb left vs es evs) {h':Hp} (hk:∀ n,lo<=n->n<h.next->h'.get n=h.get n) (hn:h.next<=h'.next):Gs lo h' 51 4 (EVt h') es evs :=
 r.ev.imp hk hn (fun row a ms hm e=>e.keep (fun n hn=>hk n (hm n hn).1 (hm n hn).2))
theorem jqp (r:RS lo h f seed p vb left vs es evs) (hl:-1000000<=left/\left<=1000000) :
 WC F16 25 [.s (.ptr p 0)] h (fun v h'=>v=.s (.bool (decide (0<=left - 1)))/\RS lo h' f seed p vb (left - 1) vs es evs/\h'.next=h.next/\∀ n,n≠p->h'.get n=h.get n):=by
 refine jba (qqv rfl rfl rfl rfl rfl rfl rfl rfl rfl rfl rfl rfl rfl) qmu rfl ?_
 unfold j3d
 obtain ⟨hA,eA,okA,nA,xA,gA⟩:=qrh r.ok r.hp.1 (some (.arr [jah ja1 f.values,jah ja0 f.blocks,si seed,si (left - 1),.slice vb 0 f.values.length f.values.length true 1,es] 75))
 have ok:=r.ok
 have hp:=r.hp
 have hlo:=r.hlo
 simp (disch:=first|omega|simp only[List.length]|apply_rules[jaa,jab,jad]) only [go_sem,jag,r.xp,eA,xA]
 refine ⟨⟨okA,xA,(gA _ (fun e=>r.pv e.symm)).trans r.xv,r.evk (fun n h1 h2=>gA n (by omega)) (by omega),hp,r.hv,r.pv,by omega⟩,nA,gA⟩
end
theorem fzl (vs:List Int):(vs.map jby).flatten.length=vs.length:=(qat vs).len.2.trans (by simp)
theorem j3w:∀ vs:List Int,(vs.map jby).flatten=vs.map (fun v=>si v)
 | []=>rfl
 | v::vs=>by rw [List.map_cons,f2c,j3w vs];rfl
theorem rdZ {vs:List Int} {i:Nat} (hi:i<vs.length) {ty:TypeId}:rdB (some (.arr (vs.map jby).flatten ty)) i 1=some [si (vs.getD i 0)]:=by
 apply jmr
 rw [j3w,f1k,f0d,f0b hi]
 rfl
theorem wrZ {vs:List Int} {i:Nat} (hi:i<vs.length) (n:Int):jbr i [si n] (vs.map jby).flatten=some ((vs.set i n).map jby).flatten:=by
 refine (jel _).2 ⟨?_,?_⟩
 ·rw [fzl];simp;omega
 ·rw [j3w,j3w,List.map_set]
  rw [List.set_eq_take_append_cons_drop,if_pos (by simpa using hi)]
  simp
theorem qd0 {c L i:Nat} {ex:Bool} (hi:i<L):jye 1 (.s (.slice c 0 L L ex 1)) (vi (i:Int))=some (.s (.ptr c i)):=by
 rw [jbi hi]
 simp
section
variable {lo:Nat} {f:Fc} {seed:Int} {p v:Nat} {left:Int} {es:SV} {evs:List Evt}
theorem qmy (hp:p<lo) (hv:v<lo) {vs:List Int} {L:Nat} (hL:vs.length=L) {ops:List Ms.Opd} (hl:ops.length<=1000) (ho:∀ o∈ops,o.value<L) (hvs:∀ n∈vs,0<=n/\n<1000003) (hP4:P[4]?=some (.slice v 0 L L true 1)) {ty:TypeId} {x9:AV} {Q:Ex->St->Prop} (hlo:1<=lo) :
 ∀ (d i:Nat) (_:i+d=ops.length) {hi:Hp} (_:Ok hi) (_:lo<=hi.next) (_:hi.get p=some (.arr P ty)) (_:hi.get v=some (.arr (vs.map jby).flatten 3)) {a:SV} (_:Gs lo hi 3 1 EZ a ((ops.take i).foldl (rdF vs) [])) {x13 x14 x16:AV}
  (hQ:∀ hj a x13 x14 x16,Ok hj->hi.next<=hj.next->(∀ n,n<lo->hj.get n=hi.get n)->Gs lo hj 3 1 EZ a (j0v ops vs)->Q (.exit 0) (.mk [.s (.ptr p 0),x1,x2,x3,x4,x5,x6,x7,x8,x9,x10,x11,.s a,x13,x14,.s (jah jbd ops),x16,vi ops.length,vi ops.length,x19] hj)),
  W F16 jnh.loop (.mk [.s (.ptr p 0),x1,x2,x3,x4,x5,x6,x7,x8,x9,x10,x11,.s a,x13,x14,.s (jah jbd ops),x16,vi ops.length,vi i,x19] hi) Q
 | 0,i,hd,hi,ok,hn,xp,xv,a,k,x13,x14,x16,hQ=>by
  obtain rfl:i=ops.length:=by omega
  rw [f19] at k
  rw [jam]
  unfold jnh
  simp (disch:=first|omega|simp only[List.length]|apply_rules[jaa,jab,jad]) only [go_sem,f05]
  exact hQ hi a _ _ _ ok (f0f _) (fun _ _=>rfl) k
 | d+1,i,hd,hi,ok,hn,xp,xv,a,k,x13,x14,x16,hQ=>by
  have hil:i<ops.length:=by omega
  have hlt:(i:Int)<(ops.length:Int):=by omega
  have hs:(i:Int)+1=((i+1:Nat):Int):=by omega
  obtain ⟨o,hio⟩:∃ o,ops[i]?=some o:=⟨_,f0b hil⟩
  have hov:=ho o (f0c hio)
  have hix:=jaj (enc:=jbd) (size:=5) hio rfl
  have ht:(ops.take (i+1)).foldl (rdF vs) []=rdF vs ((ops.take i).foldl (rdF vs) []) o:=by rw [List.take_add_one,hio,List.foldl_append];rfl
  obtain ⟨hA,eA,okA,nA,xA,gA⟩:=jcq ok [.int .i64 0,.int .i64 0,.bool false,.int .i64 0,.int .i64 0] (jbd o) 59
  have kA:Gs lo hA 3 1 EZ a ((ops.take i).foldl (rdF vs) []):=k.imp (fun n h1 h2=>gA n h2) (by omega) (fun _ _ _ _ e=>e)
  have pA:=(gA p (by omega)).trans xp
  have vA:=(gA v (by omega)).trans xv
  unfold jbd at xA eA
  rw [jam]
  unfold jnh j3e
  by_cases e:o.kind=1
  ·have c1:((o.kind:Int)=1)=True:=eq_true (by omega)
   have hlen:((ops.take i).foldl (rdF vs) []).length<=100000:=by
    have:∀ (l:List Ms.Opd) (r:List Int),(l.foldl (rdF vs) r).length<=r.length+l.length:=by
     intro l
     induction l with
     | nil=>intro r;simp
     | cons a l ih =>
      intro r
      have h1:=ih (rdF vs r a)
      have h2:(rdF vs r a).length<=r.length+1:=by unfold rdF;split<;>simp
      simp only [f15,f1n]
      omega
    have h1:=this (ops.take i) []
    have h2:(ops.take i).length<=ops.length:=by simp;omega
    simp only [f1z] at h1
    omega
   obtain ⟨a',hF,eF,okF,nF,gF,kF⟩:=kA.app1 (bytes:=8) (h1:=hA) (row:=[si (vs.getD o.value 0)]) (a:=vs.getD o.value 0) (ms:=[]) (E1:=EZ) (E2:=fun _=>EZ) (fun _ _ _ _ e=>e) okA (f0f _) (fun _ _=>rfl) (by omega) hlo
    ⟨rfl,rfl⟩ .nil (fun n hn=>by simp at hn) rfl (by omega) (by omega) (fun h2 _ row a m e hm=>e)
   have hr:rdF vs ((ops.take i).foldl (rdF vs) []) o=(ops.take i).foldl (rdF vs) []++[vs.getD o.value 0]:=by unfold rdF;rw [if_pos e]
   rw [←hr,←ht] at kF
   have hsl:=qd0 (c:=v) (ex:=true) hov
   have hrz:=rdZ (vs:=vs) (i:=o.value) (by omega) (ty:=3)
   have hrp:rdB (some (.arr P ty)) 4 1=some [.slice v 0 L L true 1]:=jmr hP4
   simp (disch:=first|omega|simp only[List.length]|apply_rules[jaa,jab,jad]) only [go_sem,jag,eq_true hlt,hix,jbd,eA,xA,c1,pA,vA,hsl,hrz,hrp,eF,hs]
   exact qmy hp hv hL hl ho hvs hP4 hlo d (i+1) (by omega) okF (by omega) ((gF p hp).trans pA) ((gF v hv).trans vA) kF (fun hj a x13 x14 x16 o' n' g' k'=>hQ hj a x13 x14 x16 o' (by omega) (fun n hn'=>(g' n hn').trans ((gF n hn').trans (gA n (by omega)))) k')
  ·have c1:((o.kind:Int)=1)=False:=eq_false (by omega)
   have hr:rdF vs ((ops.take i).foldl (rdF vs) []) o=(ops.take i).foldl (rdF vs) []:=by unfold rdF;rw [if_neg e]
   rw [←hr,←ht] at kA
   simp (disch:=first|omega|simp only[List.length]|apply_rules[jaa,jab,jad]) only [go_sem,jag,eq_true hlt,hix,jbd,eA,xA,c1,hs]
   exact qmy hp hv hL hl ho hvs hP4 hlo d (i+1) (by omega) okA (by omega) pA vA kA (fun hj a x13 x14 x16 o' n' g' k'=>hQ hj a x13 x14 x16 o' (by omega) (fun n hn'=>(g' n hn').trans (gA n (by omega))) k')
theorem qmz {lw:Nat} (hp:p<lw) (hv:1<=v/\v<lw) (pv:p≠v) {L:Nat} {x:Ms.Ins} (hx:x.op<=255) (hsd:In6 seed) (hl:x.ops.length<=1000) (ho:∀ o∈x.ops,o.value<L) {rd:List Int} (hrd:∀ n∈rd,0<=n/\n<1000003) (hrl:rd.length<=10000) (hP2:P[2]?=some (si seed)) (hP4:P[4]?=some (.slice v 0 L L true 1)) {ty:TypeId} {a:SV} {ns:List Nat} (hns:∀ n∈ns,n<lw/\n≠v) {bX:Nat} (hbX:bX<lw/\bX≠v) {fin:List Int} {x16:AV} {Q:Ex->St->Prop} :
 ∀ (d i:Nat) (_:i+d=x.ops.length) {hi:Hp} (_:Ok hi) (_:lw<=hi.next) (_:hi.get p=some (.arr P ty)) {vs:List Int} (_:vs.length=L) (_:hi.get v=some (.arr (vs.map jby).flatten 3)) (_:hi.get bX=some (.arr (jc7 x) 57)) (_:Sl hi 3 1 false EZ a rd ns) (_:j0w seed x rd (x.ops.drop i) i vs=fin) {x5 x6 x7 x9:AV}
  (hQ:∀ hj x5 x6 x7 x9,Ok hj->hi.next<=hj.next->(∀ n,n<lw->n≠v->hj.get n=hi.get n)->hj.get v=some (.arr (fin.map jby).flatten 3)->Q (.exit 2) (.mk [.s (.ptr p 0),x1,x2,x3,x4,x5,x6,x7,.s (jah jbd x.ops),x9,vi x.ops.length,vi x.ops.length,.s a,x13,x14,x15,x16,x17,x18,.s (.ptr bX 0)] hj)),
  W F16 jni.loop (.mk [.s (.ptr p 0),x1,x2,x3,x4,x5,x6,x7,.s (jah jbd x.ops),x9,vi x.ops.length,vi i,.s a,x13,x14,x15,x16,x17,x18,.s (.ptr bX 0)] hi) Q
 | 0,i,hd,hi,ok,hn,xp,vs,hL,xv,xX,s,hf,x5,x6,x7,x9,hQ=>by
  obtain rfl:i=x.ops.length:=by omega
  rw [List.drop_length] at hf
  have hf':vs=fin:=hf
  subst hf'
  rw [jam]
  unfold jni
  simp (disch:=first|omega|simp only[List.length]|apply_rules[jaa,jab,jad]) only [go_sem,f05]
  exact hQ hi _ _ _ _ ok (f0f _) (fun _ _ _=>rfl) xv
 | d+1,i,hd,hi,ok,hn,xp,vs,hL,xv,xX,s,hf,x5,x6,x7,x9,hQ=>by
  have hil:i<x.ops.length:=by omega
  have hlt:(i:Int)<(x.ops.length:Int):=by omega
  have hs:(i:Int)+1=((i+1:Nat):Int):=by omega
  obtain ⟨o,hio⟩:∃ o,x.ops[i]?=some o:=⟨_,f0b hil⟩
  have hov:=ho o (f0c hio)
  have hix:=jaj (enc:=jbd) (size:=5) hio rfl
  have hdr:x.ops.drop i=o::x.ops.drop (i+1):=by
   rw [f1p hil]
   congr 1
   exact (f07.1 hio).2
  rw [hdr] at hf
  unfold j0w at hf
  obtain ⟨hA,eA,okA,nA,xA,gA⟩:=jcq ok [.int .i64 0,.int .i64 0,.bool false,.int .i64 0,.int .i64 0] (jbd o) 59
  have pA:=(gA p (by omega)).trans xp
  have vA:=(gA v (by omega)).trans xv
  have XA:=(gA bX (by omega)).trans xX
  have sA:=s.keep (h':=hA) (fun n hn'=>gA n (by have:=hns n hn';omega))
  unfold jbd at xA eA
  rw [jam]
  unfold jni j3f
  by_cases e:o.kind=2
  ·have c1:((o.kind:Int)=2)=True:=eq_true (by omega)
   rw [if_pos e] at hf
   have hrp4:rdB (some (.arr P ty)) 4 1=some [.slice v 0 L L true 1]:=jmr hP4
   have hrp2:rdB (some (.arr P ty)) 2 1=some [si seed]:=jmr hP2
   have hsl:=qd0 (c:=v) (ex:=true) hov
   have hmd:=j0t ([seed,(x.op:Int),(i:Int)]++rd)
   obtain ⟨hC,eC,okC,nC,xC,gC⟩:=qrh okA hv.1 (some (.arr ((vs.set o.value (j0u seed x i rd)).map jby).flatten 3))
   have hwz:=wrZ (vs:=vs) (i:=o.value) (by omega) (j0u seed x i rd)
   have xX':hA.get bX=some (.arr [si x.op,jah jbd x.ops,jah jd5 x.spoils] 57):=XA
   have hmade:∀ {lo:Nat} {Q:AV->Hp->Prop},WC F16 46 [vi seed,.agg [si x.op,jah jbd x.ops,jah jd5 x.spoils],vi i,.s a] (hA.hide lo []) Q=Q (vi (j0u seed x i rd)) (hA.hide lo []):=fun {lo Q}=>j5a okA sA hsd hx (by omega) hrd hrl
   simp (disch:=first|omega|simp only[List.length]|apply_rules[jaa,jab,jad]) only [go_sem,jag,eq_true hlt,hix,jbd,eA,xA,c1,pA,vA,hrp4,hrp2,hsl,xX',hmade,hwz,eC,hs]
   exact qmz hp hv pv hx hsd hl ho hrd hrl hP2 hP4 hns hbX d (i+1) (by omega) okC (by omega) ((gC p pv).trans pA) (by rw [f2u];exact hL) xC ((gC bX hbX.2).trans XA) (sA.keep (fun n hn'=>gC n (hns n hn').2)) hf (fun hj x5 x6 x7 x9 o' n' g' k'=>hQ hj x5 x6 x7 x9 o' (by omega) (fun n h1 h2=>(g' n h1 h2).trans ((gC n h2).trans (gA n (by omega)))) k')
  ·have c1:((o.kind:Int)=2)=False:=eq_false (by omega)
   rw [if_neg e] at hf
   simp (disch:=first|omega|simp only[List.length]|apply_rules[jaa,jab,jad]) only [go_sem,jag,eq_true hlt,hix,jbd,eA,xA,c1,hs]
   exact qmz hp hv pv hx hsd hl ho hrd hrl hP2 hP4 hns hbX d (i+1) (by omega) okA (by omega) pA hL vA XA sA hf (fun hj x5 x6 x7 x9 o' n' g' k'=>hQ hj x5 x6 x7 x9 o' (by omega) (fun n h1 h2=>(g' n h1 h2).trans (gA n (by omega))) k')
end
theorem Gs.app2 {α:Type} {lo ty:Nat} {E:List SV->α->List Nat->Prop} {h:Hp} {x:SV} {l:List α} {bytes:Nat} {h1:Hp} {row:List SV} {a:α} {ms:List Nat} {E1:List SV->α->List Nat->Prop} {E2:Hp->List SV->α->List Nat->Prop} (k:Gs lo h ty sz E x l) (hk:∀ row a m,(∀ n∈m,lo<=n/\n<h.next)->E row a m->E1 row a m) (ok:Ok h1) (hn:h.next<=h1.next) (g:∀ n,lo<=n->n<h.next->h1.get n=h.get n) (hlo:lo<=h.next) (hl1:1<=lo)
 (hE:E1 row a ms) (hms:ms.Nodup) (hm:∀ n∈ms,h.next<=n/\n<h1.next) (hr:row.length=sz) (h1b:(l.length+1)*bytes<=1000000000) (h2b:l.length+1<=1000000000)
 (hE2:∀ h2,(∀ n∈ms,h2.get n=h1.get n)->∀ row a m,E1 row a m->(∀ n∈m,h2.get n=h1.get n)->E2 h2 row a m) :
 ∃ x' h2,jmp (h1.push (.arr row ty)) ty sz bytes (.s x) (.s (.slice h1.next 0 1 1 true sz))=some (.s x',h2)/\Ok h2/\h1.next<=h2.next/\(∀ n,n<lo->h2.get n=h1.get n)/\Gs lo h2 ty sz (E2 h2) x' (l++[a]):=by
 obtain ⟨ns,s,nd,lt⟩:=k
 have s1:Sl h1 ty sz false E1 x l ns:=s.imp (fun n hn=>g n (lt n hn).1 (lt n hn).2) (fun row a m hmm e=>hk row a m (fun n hn=>lt n (hmm n hn)) e)
 obtain ⟨h2,e2,ok2,n2,kp2,kt2,sl2⟩:=s1.app1 (bytes:=bytes) ok (fun n hn'=>by have:=lt n hn';omega) hr hE h1b h2b
 have kms:∀ n∈ms,h2.get n=h1.get n:=fun n hn'=>kp2 n (hm n hn').2 (fun hc=>by have:=lt n hc;have:=hm n hn';omega)
 refine ⟨_,h2,e2,ok2,by omega,fun n hn'=>kp2 n (by omega) (fun hc=>by have:=lt n hc;omega),_,sl2 (fun row a m hmm e=>hE2 h2 kms row a m e (fun n hn'=>?_)),?_,?_⟩
 ·rcases hmm n hn' with hc | hc
  ·exact kt2 n hc nd
  ·exact kms n hc
 ·refine jcg nd hms (fun n hn' hc=>?_) (fun hc=>?_) (fun hc=>?_)
  ·have:=lt n hc;have:=hm n hn';omega
  ·have:=lt _ hc;omega
  ·have:=hm _ hc;omega
 ·intro n hn'
  rcases f0h.1 hn' with rfl | hn'
  ·omega
  ·rcases f0g.1 hn' with hc | hc
   ·have:=lt n (f0r hc);omega
   ·have:=hm n hc;omega
theorem jqq (vs:List Int):∀ (l:List Ms.Opd) (r:List Int),(l.foldl (rdF vs) r).length<=r.length+l.length
 | [],r=>by simp
 | a::l,r=>by
  have h1:=jqq vs l (rdF vs r a)
  have h2:(rdF vs r a).length<=r.length+1:=by unfold rdF;split<;>simp
  simp only [f15,f1n]
  omega
section
variable {lo:Nat} {h:Hp} {f:Fc} {seed:Int} {p v:Nat} {left:Int} {vs:List Int} {es:SV} {evs:List Evt}
theorem qd1 (r:RS lo h f seed p v left vs es evs) (rn:RnOk f) (hsd:In6 seed) (g:j3q f vs) {i:Nat} {b:Ms.Blk} (hb:f.blocks[k]?=some b) {x:Ms.Ins} (hx:b.instrs[i]?=some x) (hev:evs.length<=10000) :
 WC F16 26 [.s (.ptr p 0),vi k,vi i] h (fun u h'=>u=vi (jjp seed k b i x vs).1.edge/\∃ es',RS lo h' f seed p v left (jjp seed k b i x vs).2 es' (evs++[(jjp seed k b i x vs).1])/\h.next<=h'.next/\∀ n,n<lo->n≠p->n≠v->h'.get n=h.get n):=by
 refine jba (qqv rfl rfl rfl rfl rfl rfl rfl rfl rfl rfl rfl rfl rfl) qqs rfl ?_
 unfold qan
 have ok:=r.ok
 have hp:=r.hp
 have hv:=r.hv
 have hlo:=r.hlo
 have mb:=f0c hb
 have mx:=f0c hx
 obtain ⟨ho1,ho2,ho3⟩:=rn.ops b mb x mx
 have hbl:=rn.blk b mb
 have hnb:=rn.nb
 have hk:=(f07.1 hb).1
 have hi:=(f07.1 hx).1
 have hixb:=jaj (enc:=ja0) (size:=3) hb rfl
 have hixx:=jaj (enc:=jc7) (size:=3) hx rfl
 obtain ⟨hA,eA,okA,nA,xA,gA⟩:=jcq ok [.int .i64 0,.nilSlice,.nilSlice] (jc7 x) 57
 have pA:=(gA p (by omega)).trans r.xp
 have vA:=(gA v (by omega)).trans r.xv
 have xp:=r.xp
 have lo1:=jai (enc:=jbd) (l:=x.ops)
 unfold jc7 at xA eA
 simp (disch:=first|omega|simp only[List.length]|apply_rules[jaa,jab,jad]) only [go_sem,xp,hixb,ja0,hixx,jc7,eA,xA,lo1]
 refine qmy (lo:=hA.next) (by omega) (by omega) (L:=f.values.length) g.1 (ops:=x.ops) (by omega) ho3 g.2 rfl (by omega) x.ops.length 0 (by omega) okA (f0f _) pA vA .nil (fun hB a x13 x14 x16 okB nB gB kB=>?_)
 obtain ⟨ns,sB,ndB,ltB⟩:=kB
 have xB:=(gB _ (by omega)).trans xA
 obtain ⟨rd,erd⟩:∃ rd,j0v x.ops vs=rd:=⟨_,rfl⟩
 have hrd:∀ n∈rd,0<=n/\n<1000003:=fun n hn=>j3r g.2 x.ops [] (by simp) n (by rw [←erd] at hn;exact hn)
 have hrl:rd.length<=6:=by
  have:=jqq vs x.ops []
  rw [←erd]
  unfold j0v
  simp only [f1z] at this
  omega
 rw [erd] at sB
 simp (disch:=first|omega|simp only[List.length]|apply_rules[jaa,jab,jad]) only [go_sem,xB,lo1]
 refine qmz (lw:=hB.next) (by omega) ⟨hv.1,by omega⟩ r.pv (L:=f.values.length) ho1 hsd (by omega) ho3 hrd (by omega) rfl rfl (a:=a) (ns:=ns) (fun n hn=>by have:=ltB n hn;omega) (bX:=h.next) ⟨by omega,by omega⟩ (fin:=j0w seed x rd x.ops 0 vs) x.ops.length 0 (by omega) okB (f0f _) ((gB p (by omega)).trans pA) g.1 ((gB v (by omega)).trans vA) xB sB rfl (fun hC x5 x6 x7 x9 okC nC gC xvC=>?_)
 have pC:=(gC p (by omega) r.pv).trans ((gB p (by omega)).trans pA)
 have sC:=sB.keep (h':=hC) (fun n hn=>gC n (by have:=ltB n hn;omega) (by have:=ltB n hn;omega))
 have hst:jjp seed k b i x vs=(⟨k,i,rd,jds seed b i x rd⟩,j0w seed x rd x.ops 0 vs):=by unfold jjp;simp only [erd]
 rw [hst]
 simp only
 obtain ⟨w,ew⟩:∃ w,jds seed b i x rd=w:=⟨_,rfl⟩
 have htk:∀ {Q:AV->Hp->Prop},WC F16 47 [vi seed,.agg [jah ja1 b.params,jah jc7 b.instrs,jah jfb b.edges],vi i,.s a] hC Q=Q (vi w) hC:=fun {Q}=>by
  rw [←ew]
  exact j5b sC hsd hx ho1 (by omega) (by omega) hrd (by omega)
 obtain ⟨hD,eD,okD,nD,xD,gD⟩:=jet okC [si k,si i,a,si w] 51
 have gAC:∀ n,lo<=n->n<hA.next->hC.get n=hA.get n:=fun n h1 h2=>by rw [gC n (by omega) (by omega),gB n h2]
 have kA:=r.evk (h':=hA) (fun n h1 h2=>gA n h2) (by omega)
 obtain ⟨es',hE,eE,okE,nE,gE,kE⟩:=kA.app2 (bytes:=48) (h1:=hC) (row:=[si k,si i,a,si w]) (a:=(⟨k,i,rd,w⟩:Evt)) (ms:=ns) (E1:=EVt hC) (E2:=fun h=>EVt h) (fun row a m hm e=>e.keep (fun n hn=>gAC n (hm n hn).1 (hm n hn).2)) okC (by omega) gAC (by omega) (by omega)
  ⟨a,false,rfl,sC⟩ ndB (fun n hn=>by have:=ltB n hn;omega) rfl (by omega) (by omega) (fun h2 _ row a m e hm=>e.keep hm)
 have pE:=(gE p (by omega)).trans pC
 rw [eD] at eE
 obtain ⟨hF,eF,okF,nF,xF,gF⟩:=qrh okE hp.1 (some (.arr [jah ja1 f.values,jah ja0 f.blocks,si seed,si left,.slice v 0 f.values.length f.values.length true 1,es'] 75))
 simp (disch:=first|omega|simp only[List.length]|apply_rules[jaa,jab,jad]) only [go_sem,pC,hixb,ja0,htk,eD,eE,pE,eF]
 rw [ew]
 refine ⟨rfl,es',⟨okF,xF,(gF v (fun e=>r.pv e.symm)).trans ((gE v (by omega)).trans xvC),kE.imp (fun n h1 h2=>gF n (by omega)) (by omega) (fun row a m hm e=>e.keep (fun n hn=>gF n (by have:=hm n hn;omega))),hp,hv,r.pv,by omega⟩,by omega,fun n h1 h2 h3=>?_⟩
 rw [gF n h2,gE n h1,gC n (by omega) h3,gB n (by omega),gA n (by omega)]
end
theorem j0y {F:Fns} {st fr:List AV} {es:List Ent} {h:Hp} {dst:Option Nat} {l:List (IOper×Option (List Nat))} {Q:Ex->St->Prop} {e:TypeId} {size bytes m:Nat} {z:List SV} {ol oc:Od} {js:List Nat} (k:Ok h) (hx:ev st fr ol=some (vi m)) (hy:ev st fr oc=some (vi m)) (hs:sel es js []=some []) (h1:bytes*m<=1000000000) (h2:m<=1000000000) :
 WD F ((.mk dst (.a (.mkslice e size bytes z ol oc)) none,some js)::l) st es fr h Q=WD F l (.s (.slice h.next 0 m m true size)::st) (.mk [(h.next,Nat.succ h.next)] (some [])::es) (jch fr dst (.s (.slice h.next 0 m m true size))) (h.push (.arr (rep z m) e)) Q:=by
 rw [jy1 (x:=some (DR.mk (.s (.slice h.next 0 m m true size)) (h.push (.arr (rep z m) e)) (.mk [(h.next,Nat.succ h.next)] (some [])))) (fun cl=>?_)]
 ·exact jb4
 ·cases h with
  | mk n1 t lo hid =>
  obtain rfl:hid=[]:=k.hid
  obtain rfl:lo=0:=k.lo
  have hi:iop cl st fr (.mk n1 t n1 []) (.a (.mkslice e size bytes z ol oc))=some (.s (.slice n1 0 m m true size),.mk (Nat.succ n1) (t.put (Nat.succ n1) n1 (some (.arr (rep z m) e))) n1 []):=by
   show ob (ev st fr ol) (fun v=>ob (ev st fr oc) (fun u=>qof (.mk n1 t n1 []) e size bytes z v u))=_
   rw [hx,hy]
   show oif (Nat.ble m m) (oif (Nat.ble (Nat.mul bytes m) 1000000000) (oif (Nat.ble m 1000000000) (nw (.mk n1 t n1 []) (rep z m) e _) none) none) none=_
   rw [je1 (f0f m),je1 h2,show Nat.ble (Nat.mul bytes m) 1000000000=true from je1 h1]
   rfl
  show ob (sel es js []) (fun hid'=>jkx cl st fr n1 t 0 n1 [] hid' (.a (.mkslice e size bytes z ol oc)) (fun n'=>.mk [(n1,n')] (some [])))=_
  rw [hs]
  show ob (iop cl st fr (.mk n1 t n1 []) (.a (.mkslice e size bytes z ol oc))) _=_
  rw [hi]
  rfl
section
variable {lo:Nat} {h:Hp} {f:Fc} {seed:Int} {p v:Nat} {left:Int} {es:SV} {evs:List Evt}
theorem qqw (hp:p<lo) (hv:v<lo) {vs:List Int} {L:Nat} (hL:vs.length=L) {args:List Nat} (hl:args.length<=10000) (ho:∀ u∈args,u<L) (hP4:P[4]?=some (.slice v 0 L L true 1)) {ty:TypeId} {Q:Ex->St->Prop} (hlo:1<=lo) :
 ∀ (d i:Nat) (_:i+d=args.length) {hi:Hp} (_:Ok hi) (_:lo<=hi.next) (_:hi.get p=some (.arr P ty)) (_:hi.get v=some (.arr (vs.map jby).flatten 3)) {a:SV} (_:Gs lo hi 3 1 EZ a ((args.take i).map (fun u=>vs.getD u 0))) {x8 x11:AV}
  (hQ:∀ hj a x8 x11,Ok hj->hi.next<=hj.next->(∀ n,n<lo->hj.get n=hi.get n)->Gs lo hj 3 1 EZ a (args.map (fun u=>vs.getD u 0))->Q (.exit 0) (.mk [.s (.ptr p 0),x1,x2,x3,x4,x5,x6,x7,x8,.s a,.s (jah ja1 args),x11,vi args.length,vi args.length,x14] hj)),
  W F16 jnj.loop (.mk [.s (.ptr p 0),x1,x2,x3,x4,x5,x6,x7,x8,.s a,.s (jah ja1 args),x11,vi args.length,vi i,x14] hi) Q
 | 0,i,hd,hi,ok,hn,xp,xv,a,k,x8,x11,hQ=>by
  obtain rfl:i=args.length:=by omega
  rw [f19] at k
  rw [jam]
  unfold jnj
  simp (disch:=first|omega|simp only[List.length]|apply_rules[jaa,jab,jad]) only [go_sem,f05]
  exact hQ hi a _ _ ok (f0f _) (fun _ _=>rfl) k
 | d+1,i,hd,hi,ok,hn,xp,xv,a,k,x8,x11,hQ=>by
  have hil:i<args.length:=by omega
  have hlt:(i:Int)<(args.length:Int):=by omega
  have hs:(i:Int)+1=((i+1:Nat):Int):=by omega
  obtain ⟨u,hiu⟩:∃ u,args[i]?=some u:=⟨_,f0b hil⟩
  have huv:=ho u (f0c hiu)
  have hix:=jaj (enc:=ja1) (size:=1) hiu rfl
  have ht:(args.take (i+1)).map (fun u=>vs.getD u 0)=(args.take i).map (fun u=>vs.getD u 0)++[vs.getD u 0]:=by rw [List.take_add_one,hiu,f3e];rfl
  have hlen:((args.take i).map (fun u=>vs.getD u 0)).length<=10000:=by rw [f1l,f1y];omega
  obtain ⟨a',hF,eF,okF,nF,gF,kF⟩:=k.app1 (bytes:=8) (h1:=hi) (row:=[si (vs.getD u 0)]) (a:=vs.getD u 0) (ms:=[]) (E1:=EZ) (E2:=fun _=>EZ) (fun _ _ _ _ e=>e) ok (f0f _) (fun _ _=>rfl) (by omega) hlo
   ⟨rfl,rfl⟩ .nil (fun n hn=>by simp at hn) rfl (by omega) (by omega) (fun h2 _ row a m e hm=>e)
  rw [←ht] at kF
  have hsl:=qd0 (c:=v) (ex:=true) huv
  have hrz:=rdZ (vs:=vs) (i:=u) (by omega) (ty:=3)
  have hrp:rdB (some (.arr P ty)) 4 1=some [.slice v 0 L L true 1]:=jmr hP4
  rw [jam]
  unfold jnj j3g
  simp (disch:=first|omega|simp only[List.length]|apply_rules[jaa,jab,jad]) only [go_sem,jag,eq_true hlt,hix,ja1,xp,xv,hsl,hrz,hrp,eF,hs]
  exact qqw hp hv hL hl ho hP4 hlo d (i+1) (by omega) okF (by omega) ((gF p hp).trans xp) ((gF v hv).trans xv) kF (fun hj a x8 x11 o' n' g' k'=>hQ hj a x8 x11 o' (by omega) (fun n hn'=>(g' n hn').trans (gF n hn')) k')
theorem qqx {lw:Nat} (hp:p<lw) (hv:1<=v/\v<lw) (pv:p≠v) {L:Nat} {ps:List Nat} {xs:List Int} (hpx:ps.length=xs.length) (hl:ps.length<=10000) (ho:∀ u∈ps,u<L) (hP4:P[4]?=some (.slice v 0 L L true 1)) {ty:TypeId} {a:SV} {ns:List Nat} (hns:∀ n∈ns,n<lw/\n≠v) {fin:List Int} {x12:AV} {Q:Ex->St->Prop} :
 ∀ (d i:Nat) (_:i+d=ps.length) {hi:Hp} (_:Ok hi) (_:lw<=hi.next) (_:hi.get p=some (.arr P ty)) {vs:List Int} (_:vs.length=L) (_:hi.get v=some (.arr (vs.map jby).flatten 3)) (_:Sl hi 3 1 false EZ a xs ns) (_:qbp (ps.drop i) (xs.drop i) vs=fin) {x2 x3 x5:AV}
  (hQ:∀ hj x2 x3 x5,Ok hj->hi.next<=hj.next->(∀ n,n<hi.next->n≠v->hj.get n=hi.get n)->hj.get v=some (.arr (fin.map jby).flatten 3)->Q (.exit 2) (.mk [.s (.ptr p 0),x1,x2,x3,.s (jah ja1 ps),x5,vi ps.length,vi ps.length,x8,.s a,x10,x11,x12,x13,x14] hj)),
  W F16 jnk.loop (.mk [.s (.ptr p 0),x1,x2,x3,.s (jah ja1 ps),x5,vi ps.length,vi i,x8,.s a,x10,x11,x12,x13,x14] hi) Q
 | 0,i,hd,hi,ok,hn,xp,vs,hL,xv,s,hf,x2,x3,x5,hQ=>by
  obtain rfl:i=ps.length:=by omega
  rw [List.drop_length] at hf
  have hf':vs=fin:=by unfold qbp at hf;exact hf
  subst hf'
  rw [jam]
  unfold jnk
  simp (disch:=first|omega|simp only[List.length]|apply_rules[jaa,jab,jad]) only [go_sem,f05]
  exact hQ hi _ _ _ ok (f0f _) (fun _ _ _=>rfl) xv
 | d+1,i,hd,hi,ok,hn,xp,vs,hL,xv,s,hf,x2,x3,x5,hQ=>by
  have hil:i<ps.length:=by omega
  have hix':i<xs.length:=by omega
  have hlt:(i:Int)<(ps.length:Int):=by omega
  have hs:(i:Int)+1=((i+1:Nat):Int):=by omega
  obtain ⟨u,hiu⟩:∃ u,ps[i]?=some u:=⟨_,f0b hil⟩
  obtain ⟨n,hin⟩:∃ n,xs[i]?=some n:=⟨_,f0b hix'⟩
  have huv:=ho u (f0c hiu)
  have hix:=jaj (enc:=ja1) (size:=1) hiu rfl
  have hd1:ps.drop i=u::ps.drop (i+1):=by
   rw [f1p hil];congr 1;exact (f07.1 hiu).2
  have hd2:xs.drop i=n::xs.drop (i+1):=by
   rw [f1p hix'];congr 1;exact (f07.1 hin).2
  rw [hd1,hd2] at hf
  unfold qbp at hf
  obtain ⟨bb,row,ms,e1,e2,e3,⟨rfl,_⟩,_,hbn⟩:=s.at hin
  have hbv:=hns bb hbn
  have hrp4:rdB (some (.arr P ty)) 4 1=some [.slice v 0 L L true 1]:=jmr hP4
  have hsl:=qd0 (c:=v) (ex:=true) huv
  obtain ⟨hC,eC,okC,nC,xC,gC⟩:=qrh ok hv.1 (some (.arr ((vs.set u n).map jby).flatten 3))
  have hwz:=wrZ (vs:=vs) (i:=u) (by omega) n
  rw [jam]
  unfold jnk j3h
  simp (disch:=first|omega|simp only[List.length]|apply_rules[jaa,jab,jad]) only [go_sem,jag,eq_true hlt,hix,ja1,xp,xv,e1,e2,hrp4,hsl,hwz,eC,hs]
  exact qqx hp hv pv hpx hl ho hP4 hns d (i+1) (by omega) okC (by omega) ((gC p pv).trans xp) (by rw [f2u];exact hL) xC (s.keep (fun n hn'=>gC n (hns n hn').2)) hf (fun hj x2 x3 x5 o' n' g' k'=>hQ hj x2 x3 x5 o' (by omega) (fun n h1 h2=>(g' n (by omega) h2).trans (gC n h2)) k')
theorem qd2 {vs:List Int} (r:RS lo h f seed p v left vs es evs) (rn:RnOk f) (g:j3q f vs) {d:Ms.Edg} {t:Ms.Blk} (ht:f.blocks[d.block]?=some t) (hpa:t.params.length=d.args.length) (hda:∀ u∈d.args,u<f.values.length) (htp:∀ u∈t.params,u<f.values.length) :
 WC F16 27 [.s (.ptr p 0),.agg [si d.block,jah ja1 d.args]] h (fun u h'=>RS lo h' f seed p v left (qbq f d vs) es evs/\h.next<=h'.next/\∀ n,n<h.next->n≠v->h'.get n=h.get n):=by
 refine jba (qqv rfl rfl rfl rfl rfl rfl rfl rfl rfl rfl rfl rfl rfl) qqt rfl ?_
 unfold qao
 have ok:=r.ok
 have hp:=r.hp
 have hv:=r.hv
 have hlo:=r.hlo
 have mt:=f0c ht
 have htl:=rn.blk t mt
 have hixt:=jaj (enc:=ja0) (size:=3) ht rfl
 obtain ⟨hA,eA,okA,nA,xA,gA⟩:=jet ok [si d.block,jah ja1 d.args] 53
 have pA:=(gA p (by omega)).trans r.xp
 have vA:=(gA v (by omega)).trans r.xv
 have la:=jai (enc:=ja1) (l:=d.args)
 have lp:=jai (enc:=ja1) (l:=t.params)
 simp (disch:=first|omega|simp only[List.length]|apply_rules[jaa,jab,jad]) only [go_sem,eA,xA,la]
 refine qqw (lo:=hA.next) (by omega) (by omega) (L:=f.values.length) g.1 (args:=d.args) (by omega) hda rfl (by omega) d.args.length 0 (by omega) okA (f0f _) pA vA .nil (fun hB a x8 x11 okB nB gB kB=>?_)
 obtain ⟨ns,sB,ndB,ltB⟩:=kB
 have xB:=(gB _ (by omega)).trans xA
 have pB:=(gB p (by omega)).trans pA
 have vB:=(gB v (by omega)).trans vA
 simp (disch:=first|omega|simp only[List.length]|apply_rules[jaa,jab,jad]) only [go_sem,xB,pB,hixt,ja0,lp]
 have hfol:qbp t.params (d.args.map (fun u=>vs.getD u 0)) vs=qbq f d vs:=by
  unfold qbq
  rw [f0d,ht]
  rfl
 refine qqx (lw:=hB.next) (by omega) ⟨hv.1,by omega⟩ r.pv (L:=f.values.length) (ps:=t.params) (xs:=d.args.map (fun u=>vs.getD u 0)) (by rw [f1l];exact hpa) (by omega) htp rfl (a:=a) (ns:=ns) (fun n hn=>by have:=ltB n hn;omega) (fin:=qbq f d vs) t.params.length 0 (by omega) okB (f0f _) pB g.1 vB sB hfol (fun hC x2 x3 x5 okC nC gC xvC=>?_)
 simp (disch:=first|omega|simp only[List.length]|apply_rules[jaa,jab,jad]) only [go_sem]
 have keep:∀ n,n<h.next->n≠v->hC.get n=h.get n:=fun n h1 h2=>by rw [gC n (by omega) h2,gB n (by omega),gA n h1]
 exact ⟨⟨okC,(keep p (by omega) r.pv).trans r.xp,xvC,r.evk (fun n h1 h2=>keep n h2 (by omega)) (by omega),hp,hv,r.pv,by omega⟩,by omega,keep⟩
end
def jeh (e:Evt):List SV:=[si e.block,si e.at_,jah jby e.read,si e.edge]
theorem qm0 {h:Hp} {lo:Nat} {es:SV} {evs:List Evt} (k:Gs lo h 51 4 (EVt h) es evs):jiv true h 3 es=some (jah jeh evs):=by
 obtain ⟨ns,s,_⟩:=k
 exact s.frz (enc:=jeh) (d:=2) (fun row a ms e=>by
  obtain ⟨r,ex,rfl,s⟩:=e
  exact jbm rfl (jbm rfl (jbm (qts (d:=0) s) (jm6 rfl)))) (fun _=>rfl)
section
variable {lo:Nat} {h:Hp} {f:Fc} {seed:Int} {p v:Nat} {left:Int} {vs:List Int} {es:SV} {evs:List Evt}
theorem RS.ext {h':Hp} (r:RS lo h f seed p v left vs es evs) (ok:Ok h') (hn:h.next<=h'.next) (g:∀ n,n<h.next->h'.get n=h.get n):RS lo h' f seed p v left vs es evs:=by
 have hp:=r.hp
 have hv:=r.hv
 have hlo:=r.hlo
 exact ⟨ok,(g p (by omega)).trans r.xp,(g v (by omega)).trans r.xv,r.evk (fun n _ h2=>g n h2) hn,hp,hv,r.pv,by omega⟩
theorem j3x {i:Nat} {b:Ms.Blk} (hb:f.blocks[k]?=some b) {x:Ms.Ins} (hx:b.instrs[i]?=some x):goS f seed (n+1) k i vs e=(jjp seed k b i x vs).1::goS f seed n k (i+1) (jjp seed k b i x vs).2 (jjp seed k b i x vs).1.edge:=by
 have hd:f.blocks.getD k jdf=b:=by rw [f0d,hb];rfl
 conv=>lhs;unfold goS
 rw [hd,hx]
theorem qaw {b:Ms.Blk} (hb:f.blocks[k]?=some b) (he:b.edges[e.toNat]?=none):goS f seed n k b.instrs.length vs e=[]:=by
 have hd:f.blocks.getD k jdf=b:=by rw [f0d,hb];rfl
 cases n with
 | zero=>rfl
 | succ n =>
  unfold goS
  rw [hd,f0x (f0f _),he]
def qax (f:Fc) (seed:Int) (n k:Nat) (vs:List Int):List Evt:=match n with
 | 0=>[]
 | n+1=>goS f seed n k 0 vs 0
theorem j3y {b:Ms.Blk} (hb:f.blocks[k]?=some b) {d:Ms.Edg} (he:b.edges[e.toNat]?=some d):goS f seed n k b.instrs.length vs e=qax f seed n d.block (qbq f d vs):=by
 have hd:f.blocks.getD k jdf=b:=by rw [f0d,hb];rfl
 cases n with
 | zero=>rfl
 | succ n =>
  conv=>lhs;unfold goS
  rw [hd,f0x (f0f _),he]
  rfl
theorem qgh (rn:RnOk f) (hsd:In6 seed) {b:Ms.Blk} (hb:f.blocks[k]?=some b) {fb:Nat} (hfb:fb<lo/\fb≠p/\fb≠v) {fin:List Evt} (hfl:fin.length<=10000) {N:Nat} (hN:N<=100000) {Q:Ex->St->Prop}
 (hR:∀ hj left vs es x7 x9 x10 x11 x12 x13,RS lo hj f seed p v left vs es fin->Q .ret (.mk [x0,x1,x2,x3,vi 0,.s es,x6,x7,x8,x9,x10,x11,x12,x13,vi k,x15,.s (.ptr p 0),x17,x18,x19,x20,.s (.ptr fb 0)] hj)) {x4 x5:AV}
 (hE:∀ hj (n':Nat) vs' e' es' evs' x9 x10 x11,n'<=N->evs'++goS f seed n' k b.instrs.length vs' e'=fin->GoOk f k b.instrs.length vs' e'->RS lo hj f seed p v n' vs' es' evs'->hj.get fb=some (.arr [jah ja1 f.values,jah ja0 f.blocks] 26)->Q (.exit 2) (.mk [x0,x1,x2,x3,x4,x5,x6,vi e',x8,x9,x10,x11,vi b.instrs.length,vi b.instrs.length,vi k,x15,.s (.ptr p 0),x17,x18,x19,x20,.s (.ptr fb 0)] hj)) :
 ∀ (d i n:Nat) (_:i+d=b.instrs.length) (_:n<=N) {hi:Hp} {vs:List Int} {e:Int} {es:SV} {evs:List Evt} (_:RS lo hi f seed p v n vs es evs) (_:GoOk f k i vs e) (_:evs++goS f seed n k i vs e=fin) (_:hi.get fb=some (.arr [jah ja1 f.values,jah ja0 f.blocks] 26)) {x9 x10 x11:AV},
  W F16 jnl.loop (.mk [x0,x1,x2,x3,x4,x5,x6,vi e,x8,x9,x10,x11,vi b.instrs.length,vi i,vi k,x15,.s (.ptr p 0),x17,x18,x19,x20,.s (.ptr fb 0)] hi) Q
 | 0,i,n,hd,hn,hi,vs,e,es,evs,r,g,hf,xf,x9,x10,x11=>by
  obtain rfl:i=b.instrs.length:=by omega
  rw [jam]
  unfold jnl
  simp (disch:=first|omega|simp only[List.length]|apply_rules[jaa,jab,jad]) only [go_sem,f05]
  exact hE hi n vs e es evs _ _ _ hn hf g r xf
 | d+1,i,n,hd,hn,hi,vs,e,es,evs,r,g,hf,xf,x9,x10,x11=>by
  have hil:i<b.instrs.length:=by omega
  have hlt:(i:Int)<(b.instrs.length:Int):=by omega
  have hs:(i:Int)+1=((i+1:Nat):Int):=by omega
  have hbl:=rn.blk b (f0c hb)
  obtain ⟨x,hx⟩:∃ x,b.instrs[i]?=some x:=⟨_,f0b hil⟩
  rw [jam]
  unfold jnl j3k
  simp (disch:=first|omega|simp only[List.length]|apply_rules[jaa,jab,jad]) only [go_sem,jag,eq_true hlt]
  refine WC.imp (jqp r (by omega)) ?_
  rintro _ hA ⟨rfl,rA,nA,gA⟩
  have okA:=rA.ok
  have pA:=rA.xp
  cases n with
  | zero =>
   have c1:(0<=((0:Nat):Int) - 1)=False:=eq_false (by omega)
   have hf':evs=fin:=by rw [←hf];simp [goS]
   rw [hf'] at rA
   simp (disch:=first|omega|simp only[List.length]|apply_rules[jaa,jab,jad]) only [go_sem,c1,pA]
   exact hR hA _ _ _ _ _ _ _ _ _ rA
  | succ m =>
   have c1:(0<=((m+1:Nat):Int) - 1)=True:=eq_true (by omega)
   have hm:((m+1:Nat):Int) - 1=(m:Int):=by omega
   rw [hm] at rA
   simp (disch:=first|omega|simp only[List.length]|apply_rules[jaa,jab,jad]) only [go_sem,c1]
   unfold j3j
   simp (disch:=first|omega|simp only[List.length]|apply_rules[jaa,jab,jad]) only [go_sem]
   rw [j3x hb hx] at hf
   have hev:evs.length<=10000:=by rw [←hf] at hfl;simp only [f09] at hfl;omega
   refine WC.imp (qd1 rA rn hsd g.vo hb hx hev) ?_
   rintro _ hB ⟨rfl,es',rB,nB,gB⟩
   have hdb:f.blocks.getD k jdf=b:=by rw [f0d,hb];rfl
   have gn:=g.next (seed:=seed) (x:=x) (by rw [hdb];exact hx)
   rw [hdb] at gn
   simp (disch:=first|omega|simp only[List.length]|apply_rules[jaa,jab,jad]) only [go_sem,jag,hs]
   refine qgh rn hsd hb hfb hfl hN hR hE d (i+1) m (by omega) (by omega) rB gn ?_ ?_
   ·rw [f03];exact hf
   ·rw [gB fb hfb.1 hfb.2.1 hfb.2.2,gA fb hfb.2.1];exact xf
theorem qgi (rn:RnOk f) (hsd:In6 seed) {fb:Nat} (hfb:fb<lo/\fb≠p/\fb≠v) {fin:List Evt} (hfl:fin.length<=10000) {Q:Ex->St->Prop}
 (hR:∀ hj left vs es x6 x7 x8 x9 x10 x11 x12 x13 x14 x15,RS lo hj f seed p v left vs es fin->Q .ret (.mk [x0,x1,x2,x3,vi 0,.s es,x6,x7,x8,x9,x10,x11,x12,x13,x14,x15,.s (.ptr p 0),x17,x18,x19,x20,.s (.ptr fb 0)] hj))
 (hX:∀ hj left vs es x6 x7 x8 x9 x10 x11 x12 x13 x14 x15,RS lo hj f seed p v left vs es fin->Q (.exit 0) (.mk [x0,x1,x2,x3,x4,x5,x6,x7,x8,x9,x10,x11,x12,x13,x14,x15,.s (.ptr p 0),x17,x18,x19,x20,.s (.ptr fb 0)] hj)) :
 ∀ (M N k:Nat) (_:N<=M) (_:M<=100000) {hi:Hp} {vs:List Int} {es:SV} {evs:List Evt} (_:RS lo hi f seed p v N vs es evs) (_:GoOk f k 0 vs 0) (_:evs++qax f seed N k vs=fin) (_:hi.get fb=some (.arr [jah ja1 f.values,jah ja0 f.blocks] 26)) {x6 x7 x8 x9 x10 x11 x12 x13 x15:AV},
  W F16 jnm.loop (.mk [x0,x1,x2,x3,x4,x5,x6,x7,x8,x9,x10,x11,x12,x13,vi k,x15,.s (.ptr p 0),x17,x18,x19,x20,.s (.ptr fb 0)] hi) Q
 | M,0,k,hN,hM,hi,vs,es,evs,r,g,hf,xf,x6,x7,x8,x9,x10,x11,x12,x13,x15=>by
  rw [jam]
  unfold jnm
  simp (disch:=first|omega|simp only[List.length]|apply_rules[jaa,jab,jad]) only [go_sem]
  refine WC.imp (jqp r (by omega)) ?_
  rintro _ hA ⟨rfl,rA,nA,gA⟩
  have c1:(0<=((0:Nat):Int) - 1)=False:=eq_false (by omega)
  have hf':evs=fin:=by rw [←hf];simp [qax]
  rw [hf'] at rA
  simp (disch:=first|omega|simp only[List.length]|apply_rules[jaa,jab,jad]) only [go_sem,c1]
  exact hX hA _ _ _ _ _ _ _ _ _ _ _ _ _ rA
 | 0,n+1,k,hN,hM,hi,vs,es,evs,r,g,hf,xf,x6,x7,x8,x9,x10,x11,x12,x13,x15=>by omega
 | M+1,n+1,k,hN,hM,hi,vs,es,evs,r,g,hf,xf,x6,x7,x8,x9,x10,x11,x12,x13,x15=>by
  obtain ⟨b,hb⟩:∃ b,f.blocks[k]?=some b:=⟨_,f0b g.kb⟩
  have mb:=f0c hb
  have hixb:=jaj (enc:=ja0) (size:=3) hb rfl
  have li:=jai (enc:=jc7) (l:=b.instrs)
  have le:=jai (enc:=jfb) (l:=b.edges)
  have hdb:f.blocks.getD k jdf=b:=by rw [f0d,hb];rfl
  rw [jam]
  unfold jnm
  simp (disch:=first|omega|simp only[List.length]|apply_rules[jaa,jab,jad]) only [go_sem]
  refine WC.imp (jqp r (by omega)) ?_
  rintro _ hA ⟨rfl,rA,nA,gA⟩
  have c1:(0<=((n+1:Nat):Int) - 1)=True:=eq_true (by omega)
  have hm:((n+1:Nat):Int) - 1=(n:Int):=by omega
  rw [hm] at rA
  have xA:=(gA fb hfb.2.1).trans xf
  simp (disch:=first|omega|simp only[List.length]|apply_rules[jaa,jab,jad]) only [go_sem,c1]
  unfold j3m
  simp (disch:=first|omega|simp only[List.length]|apply_rules[jaa,jab,jad]) only [go_sem,xA,hixb,ja0,li]
  refine qgh rn hsd hb hfb hfl (N:=n) (by omega) (fun hj left vs es x7 x9 x10 x11 x12 x13 rj=>?_) (fun hj n' vs' e' es' evs' x9 x10 x11 hn' hf' g' rj xj=>?_) b.instrs.length 0 n (by omega) (f0f _) rA g hf xA
  ·simp (disch:=first|omega|simp only[List.length]|apply_rules[jaa,jab,jad]) only [go_sem]
   exact hR hj _ _ _ _ _ _ _ _ _ _ _ _ _ rj
  ·have okj:=rj.ok
   by_cases he:b.edges=[]
   ·have c2:((b.edges.length:Int)=0)=True:=eq_true (by rw [he];rfl)
    have hf2:evs'=fin:=by
     rw [qaw hb (by rw [he];rfl),f1o] at hf'
     exact hf'
    rw [hf2] at rj
    simp (disch:=first|omega|simp only[List.length]|apply_rules[jaa,jab,jad]) only [go_sem,xj,hixb,ja0,le,c2]
    exact hX hj _ _ _ _ _ _ _ _ _ _ _ _ _ rj
   ·have hel:=f1g.2 he
    have c2:((b.edges.length:Int)=0)=False:=eq_false (by omega)
    have hge:=g'.eb
    rw [hdb] at hge
    obtain ⟨he1,he2⟩:=hge rfl he
    obtain ⟨q,rfl⟩:=Int.eq_ofNat_of_zero_le he1
    obtain ⟨d,hd⟩:∃ d,b.edges[q]?=some d:=⟨_,f0b (by omega)⟩
    obtain ⟨t,ht,hpa,hda,htp⟩:=rn.edg b mb d (f0c hd)
    have hixe:=jaj (enc:=jfb) (size:=2) hd rfl
    have hq:((q:Int)).toNat=q:=rfl
    rw [j3y hb (d:=d) (by rw [hq];exact hd)] at hf'
    obtain ⟨hD,eD,okD,nD,xD,gD⟩:=jcq okj [.int .i64 0,.nilSlice] (jfb d) 53
    have rD:=rj.ext okD (by omega) gD
    have xfD:=(gD fb (by have:=rj.hlo;omega)).trans xj
    have gj:=g'.jump rn (d:=d) (by rw [hdb,hq];exact hd)
    unfold jfb at eD xD
    simp (disch:=first|omega|simp only[List.length]|apply_rules[jaa,jab,jad]) only [go_sem,xj,hixb,ja0,le,c2]
    unfold j3l
    simp (disch:=first|omega|simp only[List.length]|apply_rules[jaa,jab,jad]) only [go_sem,xj,hixb,ja0,hixe,jfb,eD,xD]
    refine WC.imp (qd2 rD rn g'.vo ht hpa hda htp) ?_
    rintro u hF ⟨rF,nF,gF⟩
    have okF:=rF.ok
    have hlv:=rj.hlo
    have hvv:=rj.hv
    have xDF:=(gF hj.next (by omega) (by omega)).trans xD
    have xfF:=(gF fb (by omega) hfb.2.2).trans xfD
    simp (disch:=first|omega|simp only[List.length]|apply_rules[jaa,jab,jad]) only [go_sem,xDF]
    exact qgi rn hsd hfb hfl hR hX M n' d.block (by omega) (by omega) rF gj hf' xfF
end
def j5h (l:List Evt):AV:=.tup [(false,[jah jeh l]),(false,[si 0])]
theorem qay {h:Hp} {lo:Nat} {es:SV} {evs:List Evt} (k:Gs lo h 51 4 (EVt h) es evs):jgb true h 3 (.tup [(false,[es]),(false,[.int .i64 0])])=some (j5h evs):=by
 show ob (ob (jiu (jiv true h 3) [es]) (fun x=>ob (qep (jiv true h 3) [(false,[.int .i64 0])]) (fun r=>some ((false,x)::r)))) (fun y=>some (AV.tup y))=_
 rw [jm6 (qm0 k)]
 rfl
theorem qaz (x:SV):∀ n,rep [x] n=(List.replicate n [x]).flatten
 | 0=>rfl
 | n+1=>by
  have h:rep [x] (n+1)=jgq [x] (rep [x] n):=rfl
  rw [h,jc1,qaz x n];rfl
theorem qa0 (f:Fc) (seed:Int) (n:Nat):jqt f seed n=qax f seed n 0 (List.replicate f.values.length 0):=by
 cases n<;>rfl
theorem j3z (f:Fc) (seed:Int) (n:Nat):(jqt f seed n).length<=n:=by
 cases n with
 | zero=>simp [jqt]
 | succ n=>exact f18 (jvf f seed n _ _ _ _)
section
variable {h:Hp} {m:Nat×Nat} {f:Fc} {s:List Bool} {Q:AV->Hp->Prop}
theorem qd3 (o:FlOk m f s) (m1:2<=m.1/\m.1<=10) (m2:2<=m.2/\m.2<=10):WC F16 11 [.agg [jah ja1 f.values,jah ja0 f.blocks],.agg [si m.1,si m.2]] h Q=Q (vi 0) h:=jaq ((ja4 rfl).trans ((ja4 rfl).trans (qms o m1 m2)))
end
theorem qa1 {h:Hp} (ok:Ok h) {m:Nat×Nat} {f:Fc} {s:List Bool} (o:FlOk m f s) (m1:2<=m.1/\m.1<=10) (m2:2<=m.2/\m.2<=10) {seed:Int} (hsd:In6 seed) (hst:steps<=5000) :
 WC F16 13 [.agg (qcu f),.agg [si m.1,si m.2],vi seed,vi steps] h (fun v h'=>∃ d,jgb true h' d v=some (j5h (jqt f seed steps))):=by
 refine jba (qqv rfl rfl rfl rfl rfl rfl rfl rfl rfl rfl rfl rfl rfl) qqu rfl ?_
 unfold qap
 have rn:=qmw o.k
 have hnv:=rn.nv
 have hpos:=ok.pos
 obtain ⟨hA,eA,okA,nA,xA,gA⟩:=jet ok [jah ja1 f.values,jah ja0 f.blocks] 26
 obtain ⟨hB,eB,okB,nB,xB,gB⟩:=jet okA [si m.1,si m.2] 30
 have yA:=(gB _ (by omega)).trans xA
 have nB':hB.next=h.next+2:=by omega
 have lv:=jai (enc:=ja1) (l:=f.values)
 rw [nA] at xB
 unfold qcu
 simp (disch:=first|omega|simp only[List.length]|apply_rules[jaa,jab,jad]) only [go_sem,eA,eB,nA,yA,xB,qd3 o m1 m2]
 have c1:((steps:Int)<0)=False:=eq_false (by omega)
 have c2:(5000<(steps:Int))=False:=eq_false (by omega)
 unfold j3o
 simp (disch:=first|omega|simp only[List.length]|apply_rules[jaa,jab,jad]) only [go_sem,c1,c2]
 unfold j3n j3i
 simp (disch:=first|omega|simp only[List.length]|apply_rules[jaa,jab,jad]) only [go_sem,yA,lv]
 rw [j0y okB rfl rfl rfl (by omega) (by omega)]
 obtain ⟨hC,eC,okC,nC,xC,gC⟩:=jet okB (rep [.int .i64 0] f.values.length) 3
 obtain ⟨hD,eD,okD,nD,xD,gD⟩:=jet okC [jah ja1 f.values,jah ja0 f.blocks,si seed,si steps,.slice hB.next 0 f.values.length f.values.length true 1,.nilSlice] 75
 have r:RS hD.next hD f seed hC.next hB.next steps (List.replicate f.values.length 0) .nilSlice []:=by
  refine ⟨okD,xD,?_,.nil,⟨by omega,by omega⟩,⟨by omega,by omega⟩,by omega,f0f _⟩
  rw [gD _ (by omega),xC,qaz,List.map_replicate]
  rfl
 have xf:=(gD h.next (by omega)).trans ((gC _ (by omega)).trans yA)
 simp (disch:=first|omega|simp only[List.length]|apply_rules[jaa,jab,jad]) only [go_sem,eC,eD]
 refine qgi rn hsd (fb:=h.next) ⟨by omega,by omega,by omega⟩ (fin:=jqt f seed steps) (by have:=j3z f seed steps;omega) (fun hj left vs es x6 x7 x8 x9 x10 x11 x12 x13 x14 x15 rj=>?_) (fun hj left vs es x6 x7 x8 x9 x10 x11 x12 x13 x14 x15 rj=>?_) steps steps 0 (f0f _) (by omega) r (rn.start o.hne) (by rw [f0m,qa0]) xf
 ·simp (disch:=first|omega|simp only[List.length]|apply_rules[jaa,jab,jad]) only [go_sem]
  exact ⟨3,qay rj.ev⟩
 ·have okj:=rj.ok
  have pj:=rj.xp
  simp (disch:=first|omega|simp only[List.length]|apply_rules[jaa,jab,jad]) only [go_sem,pj]
  exact ⟨3,qay rj.ev⟩
def S17 (f:FuncId):Bool:=Nat.beq f 13
noncomputable def F17:Fns:=PX S17 F16
theorem qqy {A:Nat->Int}:Env Try.prog A tys F17:=jfr qtr
theorem qri {f:FuncId} (h1:S1 f=false) (h2:Nat.beq f jex.f=false) (h3:S3 f=false) (h4:S4 f=false) (h5:S5 f=false) (h6:S6 f=false) (h7:S7 f=false) (h8:S8 f=false) (h9:S9 f=false) (h10:S10 f=false) (h11:S11 f=false) (h15:S15 f=false) (h16:S16 f=false) (h17:S17 f=false) {vs:List AV} {h:Hp}:jc6 F17 f vs h=none:=(ja4 h17).trans (qqv h1 h2 h3 h4 h5 h6 h7 h8 h9 h10 h11 h15 h16)
section
variable {h:Hp} {m:Nat×Nat} {f:Fc} {s:List Bool} {Q:AV->Hp->Prop}
theorem qd4 (o:FlOk m f s) (m1:2<=m.1/\m.1<=10) (m2:2<=m.2/\m.2<=10) {seed:Int} (hsd:In6 seed) (hst:steps<=5000):WC F17 13 [.agg [jah ja1 f.values,jah ja0 f.blocks],.agg [si m.1,si m.2],vi seed,vi steps] h Q=Q (j5h (jqt f seed steps)) h :=
 jaq (jbf rfl (by simp only [jas,jav,ja6,jbx,jaw,ja7,ja5,jbh,ja8,jbc,if_true]) (qa1 jde o m1 m2 hsd hst))
theorem j5c {g:FuncId} (h15:S15 g=false) (h16:S16 g=false) (h17:S17 g=false) {vs:List AV}:jc6 F17 g vs h=jc6 F11 g vs h:=(ja4 h17).trans ((ja4 h16).trans (ja4 h15))
theorem jx6 {a b:Int} (ha:In6 a) (hb:In6 b):WC F17 8 [vi a,vi b] h Q=Q (.agg (qir (jp9 a b))) h:=jaq ((j5c rfl rfl rfl).trans ((ja4 rfl).trans ((qgb rfl rfl).trans ((ja4 rfl).trans ((qrb rfl rfl rfl rfl).trans (jr6 ha hb))))))
theorem qa2 {l:List Pc} (m1:2<=m.1/\m.1<=10) (m2:2<=m.2/\m.2<=10) (pin:∀ q∈l,Pin q) {xl:SV} (lx:LstE jb7 7 xl l):WC F17 7 [.agg [si m.1,si m.2],.s xl] h Q=Q (.agg (qcu (jer m l))) h:=jaq ((j5c rfl rfl rfl).trans ((ja4 rfl).trans ((qgb rfl rfl).trans ((ja4 rfl).trans ((qrb rfl rfl rfl rfl).trans (j8k m1 m2 pin lx))))))
end
end Go.Proofs.Ytokcdoklcbgigaa.Ev
