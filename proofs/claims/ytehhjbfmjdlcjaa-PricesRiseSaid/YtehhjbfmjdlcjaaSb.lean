/- Code of functions as the interpreter has it prepared, cut at loops. -/
import Derived.Test.YtehhjbfmjdlcjaaMc11
import Derived.Test.YtehhjbfmjdlcjaaVd
namespace Go.Proofs.Ytehhjbfmjdlcjaa.Ev
open Go Go.RowKit
set_option linter.all false
set_option maxRecDepth 100000
def qcx:IC:=(.seq (.block 1 (.seq (.region [(qP (.ival 2 1 false (.g 4) (.g 6))),(qQ 3 (.mv (.l 0)))]) (.seq (.region [(qP (.mv (.g 3))),(qP (.bin .lt (.l 0) (qC 2))),(qP (.mv (.l 0))),(qR 0 false (.mv (.g 3))),(qR 1 false (.bin .gt (.l 0) (qC 10))),(qQ 2 (.pick (.l 2) (.c (.s (.bool true))) (.l 0)))]) (.cond (.g 2) (.seq (.region [(qQ 1 (.mv (qC 2)))]) .ret) .skip)))) (.region [(qP (.bin .add (.g 6) (qC 1))),(qQ 6 (.mv (.l 0)))]))
def qcy:IC:=(.seq (.region [(qQ 5 (.bin .lt (.g 6) (qC 2)))]) (.seq (.cond (.g 5) .skip (.exit 0)) qcx))
def qnc:IC:=(.seq (.region [(qB 7 (.box 25 (.g 0))),(qQ 1 (.mv (qC 0)))]) (.seq (.seq (.region [(qP (.fld 0 (.g 7))),(qB 4 (.load 2 true (.l 0))),(qQ 6 (.mv (qC 0)))]) (.block 0 (.loop qcy))) (.seq (.region [(qQ 1 (.mv (qC 0)))]) .ret)))
theorem qt1:T 46=some (.mk qnc 1 7 [(.tmp 1)]):=by kernel_rfl
def qcz:IC:=(.seq (.block 3 (.seq (.region [(qP (.ixs 3 (.g 4) (.g 7))),(qA (.load 3 true (.l 0))),(qB 3 (.new 46 [(.int .i64 0),.nilSlice,.nilSlice])),(qA (.store 3 (.l 0) (.l 1)))]) (.seq (.region [(qP (.fld 1 (.g 3))),(qA (.load 1 false (.l 0))),(qP (.len (.l 0))),(qP (.bin .gt (.l 0) (qC 6))),(qP (.mv (.l 0))),(qR 0 false (.fld 2 (.g 3))),(qS 1 false (.load 1 false (.l 0))),(qR 2 false (.len (.l 0))),(qR 3 false (.bin .gt (.l 0) (qC 20))),(qQ 2 (.pick (.l 4) (.c (.s (.bool true))) (.l 0)))]) (.cond (.g 2) (.seq (.region [(qQ 1 (.mv (qC 1)))]) .ret) .skip)))) (.region [(qP (.bin .add (.g 7) (qC 1))),(qQ 7 (.mv (.l 0)))]))
def j1p:IC:=(.seq (.region [(qQ 5 (.bin .lt (.g 7) (.g 6)))]) (.seq (.cond (.g 5) .skip (.exit 2)) qcz))
def qc0:IC:=(.seq (.region [(qP (.fld 1 (.g 11))),(qB 4 (.load 1 false (.l 0))),(qQ 6 (.len (.l 0))),(qQ 7 (.mv (qC 0)))]) (.block 2 (.loop j1p)))
def qc1:IC:=(.seq (.seq (.region [(qP (.mv (.g 9))),(qP (.fld 1 (.g 11))),(qA (.load 1 false (.l 0))),(qP (.len (.l 0))),(qP (.bin .add (.l 3) (.l 0))),(qQ 9 (.mv (.l 0)))]) (.seq (.region [(qP (.mv (.g 9))),(qQ 8 (.bin .gt (.l 0) (qC 160)))]) (.cond (.g 8) (.seq (.region [(qQ 1 (.mv (qC 1)))]) .ret) .skip))) qc0)
def qc2:IC:=(.seq (.block 1 (.seq (.region [(qP (.ixs 3 (.g 12) (.g 15))),(qA (.load 3 true (.l 0))),(qB 11 (.new 42 [.nilSlice,.nilSlice,.nilSlice])),(qA (.store 3 (.l 0) (.l 1)))]) (.seq (.seq (.region [(qP (.fld 0 (.g 11))),(qA (.load 1 false (.l 0))),(qP (.len (.l 0))),(qP (.bin .gt (.l 0) (qC 5))),(qP (.mv (.l 0))),(qR 0 false (.fld 1 (.g 11))),(qS 1 false (.load 1 false (.l 0))),(qR 2 false (.len (.l 0))),(qR 3 false (.bin .gt (.l 0) (qC 40))),(qP (.pick (.l 4) (.c (.s (.bool true))) (.l 0))),(qP (.mv (.l 0))),(qR 0 false (.fld 2 (.g 11))),(qS 1 false (.load 1 false (.l 0))),(qR 2 false (.len (.l 0))),(qR 3 false (.bin .gt (.l 0) (qC 3))),(qQ 10 (.pick (.l 4) (.c (.s (.bool true))) (.l 0)))]) (.cond (.g 10) (.seq (.region [(qQ 1 (.mv (qC 1)))]) .ret) .skip)) qc1))) (.region [(qP (.bin .add (.g 15) (qC 1))),(qQ 15 (.mv (.l 0)))]))
def j1q:IC:=(.seq (.region [(qQ 13 (.bin .lt (.g 15) (.g 14)))]) (.seq (.cond (.g 13) .skip (.exit 0)) qc2))
def qc3:IC:=(.seq (.region [(qQ 9 (.mv (qC 0)))]) (.seq (.seq (.region [(qP (.fld 1 (.g 17))),(qB 12 (.load 1 false (.l 0))),(qQ 14 (.len (.l 0))),(qQ 15 (.mv (qC 0)))]) (.block 0 (.loop j1q))) (.seq (.region [(qQ 1 (.mv (qC 0)))]) .ret)))
def qnd:IC:=(.seq (.region [(qB 17 (.box 30 (.g 0))),(qQ 1 (.mv (qC 0)))]) (.seq (.seq (.region [(qP (.fld 1 (.g 17))),(qA (.load 1 false (.l 0))),(qP (.len (.l 0))),(qP (.bin .lt (.l 0) (qC 1))),(qP (.mv (.l 0))),(qR 0 false (.fld 1 (.g 17))),(qS 1 false (.load 1 false (.l 0))),(qR 2 false (.len (.l 0))),(qR 3 false (.bin .gt (.l 0) (qC 16))),(qP (.pick (.l 4) (.c (.s (.bool true))) (.l 0))),(qP (.mv (.l 0))),(qR 0 false (.fld 0 (.g 17))),(qS 1 false (.load 1 false (.l 0))),(qR 2 false (.len (.l 0))),(qR 3 false (.bin .gt (.l 0) (qC 160))),(qQ 16 (.pick (.l 4) (.c (.s (.bool true))) (.l 0)))]) (.cond (.g 16) (.seq (.region [(qQ 1 (.mv (qC 1)))]) .ret) .skip)) qc3))
theorem qt2:T 47=some (.mk qnd 1 17 [(.tmp 1)]):=by kernel_rfl
def qc4:IC:=(.seq (.region [(qB 3 (.box 30 (.g 0))),(qQ 2 (.mv (.c (.s (.bool false)))))]) (.seq (.region [(qP (.mv (.g 1))),(qP (.bin .ge (.l 0) (qC 0))),(qP (.mv (.l 0))),(qR 0 true (.mv (.g 1))),(qR 1 true (.fld 0 (.g 3))),(qS 2 true (.load 1 false (.l 0))),(qR 3 true (.len (.l 0))),(qR 4 true (.bin .lt (.l 3) (.l 0))),(qP (.pick (.l 5) (.l 0) (.c (.s (.bool false))))),(qQ 2 (.mv (.l 0)))]) .ret))
theorem qrf:T 72=some (.mk qc4 2 2 [(.tmp 2)]):=by kernel_rfl
def jii:IC:=(.draw [((qP (.fld 3 (.g 10))),.none),((qA (.load 1 false (.l 0))),(.some [])),((qP (.bin .eq (.l 0) (qC 4))),.none),((qP (.mv (.l 0))),.none),((qR 0 true (.fld 4 (.g 10))),.none),((qS 1 true (.load 1 false (.l 0))),(.some [])),((qR 2 true (.bin .lt (.l 0) (qC 0))),.none),((qR 3 true (.mv (.l 0))),.none),((qR 0 false (.fld 4 (.g 10))),.none),((qS 1 false (.load 1 false (.l 0))),(.some [])),((qR 2 false (.fld 0 (.g 8))),.none),((qS 3 false (.load 1 false (.l 0))),(.some [1])),((qR 4 false (.fld 1 (.g 10))),.none),((qS 5 false (.load 1 false (.l 0))),(.some [1,3])),((qR 6 false (.ixs 1 (.l 2) (.l 0))),.none),((qS 7 false (.load 1 false (.l 0))),(.some [5])),((qR 8 false (.fld 0 (.g 6))),.none),((qR 9 false (.ixa 2 1 (.l 0) (.l 1))),.none),((qS 10 false (.load 1 false (.l 0))),(.some [8])),((qR 11 false (.bin .ge (.l 9) (.l 0))),.none),((qR 16 true (.pick (.l 12) (.c (.s (.bool true))) (.l 0))),.none),((qP (.pick (.l 17) (.l 0) (.c (.s (.bool false))))),.none),((qQ 5 (.mv (.l 0))),.none)])
def jij:IC:=(.cond (.g 4) (.seq (.region [(qQ 3 (.mv (qC 4)))]) .ret) .skip)
def jik:IC:=(.cond (.g 9) (.seq (.region [(qQ 3 (.mv (qC 3)))]) .ret) (.seq (.region [(qA (.load 2 true (.g 8))),(qP (.fld 1 (.g 10))),(qA (.load 1 false (.l 0))),(qA (.call 72 [(.l 2),(.l 0)])),(qP (.not (.l 0))),(qQ 7 (.mv (.l 0)))]) (.cond (.g 7) (.seq (.region [(qQ 3 (.mv (qC 2)))]) .ret) (.seq jii (.cond (.g 5) (.seq (.region [(qQ 3 (.mv (qC 2)))]) .ret) (.seq (.seq (.region [(qP (.fld 3 (.g 10))),(qA (.load 1 false (.l 0))),(qP (.bin .le (.l 0) (qC 3))),(qP (.mv (.l 0))),(qR 0 true (.fld 4 (.g 10))),(qS 1 true (.load 1 false (.l 0))),(qR 2 true (.bin .ne (.l 0) (qC 0))),(qP (.pick (.l 3) (.l 0) (.c (.s (.bool false))))),(qQ 4 (.mv (.l 0)))]) (.cond (.g 4) .skip (.region [(qP (.fld 3 (.g 10))),(qA (.load 1 false (.l 0))),(qP (.bin .eq (.l 0) (qC 5))),(qP (.mv (.l 0))),(qR 0 true (.fld 0 (.g 10))),(qS 1 true (.load 1 false (.l 0))),(qR 2 true (.bin .ne (.l 0) (qC 2))),(qR 3 true (.mv (.l 0))),(qR 0 false (.fld 2 (.g 10))),(qS 1 false (.load 1 false (.l 0))),(qR 2 false (.not (.l 0))),(qR 7 true (.pick (.l 3) (.c (.s (.bool true))) (.l 0))),(qP (.pick (.l 8) (.l 0) (.c (.s (.bool false))))),(qQ 4 (.mv (.l 0)))]))) jij))))))
def j7c:IC:=(.seq (.region [(qB 8 (.box 30 (.g 0))),(qB 6 (.box 25 (.g 1))),(qB 10 (.box 48 (.g 2))),(qQ 3 (.mv (qC 0)))]) (.seq (.block 0 (.seq (.seq (.region [(qP (.fld 0 (.g 10))),(qA (.load 1 false (.l 0))),(qP (.bin .ne (.l 0) (qC 1))),(qP (.mv (.l 0))),(qR 0 true (.fld 0 (.g 10))),(qS 1 true (.load 1 false (.l 0))),(qR 2 true (.bin .ne (.l 0) (qC 2))),(qP (.pick (.l 3) (.l 0) (.c (.s (.bool false))))),(qQ 9 (.mv (.l 0)))]) (.cond (.g 9) .skip (.region [(qP (.fld 3 (.g 10))),(qA (.load 1 false (.l 0))),(qP (.bin .lt (.l 0) (qC 1))),(qP (.mv (.l 0))),(qR 0 false (.fld 3 (.g 10))),(qS 1 false (.load 1 false (.l 0))),(qR 2 false (.bin .gt (.l 0) (qC 5))),(qP (.pick (.l 3) (.c (.s (.bool true))) (.l 0))),(qQ 9 (.mv (.l 0)))]))) jik)) (.seq (.region [(qQ 3 (.mv (qC 0)))]) .ret)))
theorem qne:T 67=some (.mk j7c 3 8 [(.tmp 3)]):=by kernel_rfl
def j1r:IC:=(.draw [((qP (.fld 0 (.g 5))),.none),((qA (.load 1 false (.l 0))),(.some [])),((qP (.fld 1 (.g 7))),.none),((qA (.load 1 false (.l 0))),(.some [1])),((qP (.ixs 1 (.l 2) (.l 0))),.none),((qA (.load 1 false (.l 0))),(.some [])),((qP (.fld 0 (.g 5))),.none),((qA (.load 1 false (.l 0))),(.some [1,3,5])),((qP (.fld 1 (.g 10))),.none),((qA (.load 1 false (.l 0))),(.some [1,3,5,7])),((qP (.ixs 1 (.l 2) (.l 0))),.none),((qA (.load 1 false (.l 0))),(.some [5,7,9])),((qQ 4 (.bin .ne (.l 6) (.l 0))),.none)])
def j1s:IC:=(.seq (.region [(qQ 3 (.mv (qC 0)))]) .ret)
def j1t:IC:=(.seq (.seq j1r (.cond (.g 4) (.seq (.region [(qQ 3 (.mv (qC 17)))]) .ret) .skip)) j1s)
def j1u:IC:=(.seq (.region [(qP (.fld 1 (.g 9))),(qA (.load 1 false (.l 0))),(qP (.fld 4 (.g 10))),(qA (.load 1 false (.l 0))),(qP (.ixs 5 (.l 2) (.l 0))),(qA (.load 5 true (.l 0))),(qB 7 (.new 48 [(.int .i64 0),(.int .i64 0),(.bool false),(.int .i64 0),(.int .i64 0)])),(qA (.store 5 (.l 0) (.l 1)))]) (.seq (.seq (.region [(qP (.fld 0 (.g 7))),(qA (.load 1 false (.l 0))),(qP (.bin .ne (.l 0) (qC 1))),(qP (.mv (.l 0))),(qR 0 false (.fld 2 (.g 7))),(qS 1 false (.load 1 false (.l 0))),(qQ 6 (.pick (.l 2) (.c (.s (.bool true))) (.l 0)))]) (.cond (.g 6) (.seq (.region [(qQ 3 (.mv (qC 4)))]) .ret) .skip)) j1t))
def j7d:IC:=(.seq (.region [(qB 5 (.box 30 (.g 0))),(qB 9 (.box 46 (.g 1))),(qB 10 (.box 48 (.g 2))),(qQ 3 (.mv (qC 0)))]) (.seq (.seq (.region [(qP (.fld 4 (.g 10))),(qA (.load 1 false (.l 0))),(qP (.bin .lt (.l 0) (qC 0))),(qP (.mv (.l 0))),(qR 0 false (.fld 4 (.g 10))),(qS 1 false (.load 1 false (.l 0))),(qR 2 false (.fld 1 (.g 9))),(qS 3 false (.load 1 false (.l 0))),(qR 4 false (.len (.l 0))),(qR 5 false (.bin .ge (.l 3) (.l 0))),(qQ 8 (.pick (.l 6) (.c (.s (.bool true))) (.l 0)))]) (.cond (.g 8) (.seq (.region [(qQ 3 (.mv (qC 6)))]) .ret) .skip)) j1u))
theorem qnf:T 68=some (.mk j7d 3 8 [(.tmp 3)]):=by kernel_rfl
def j1v:IC:=(.draw [((qP (.fld 0 (.g 7))),.none),((qA (.load 1 false (.l 0))),(.some [])),((qP (.bin .lt (.l 0) (qC 0))),.none),((qP (.mv (.l 0))),.none),((qR 0 false (.fld 0 (.g 7))),.none),((qS 1 false (.load 1 false (.l 0))),(.some [])),((qR 2 false (.bin .ge (.l 0) (qC 2))),.none),((qP (.pick (.l 3) (.c (.s (.bool true))) (.l 0))),.none),((qP (.mv (.l 0))),.none),((qR 0 false (.fld 1 (.g 7))),.none),((qS 1 false (.load 1 false (.l 0))),(.some [])),((qR 2 false (.bin .lt (.l 0) (qC 0))),.none),((qP (.pick (.l 3) (.c (.s (.bool true))) (.l 0))),.none),((qP (.mv (.l 0))),.none),((qR 0 false (.fld 1 (.g 7))),.none),((qS 1 false (.load 1 false (.l 0))),(.some [])),((qR 2 false (.fld 0 (.g 7))),.none),((qS 3 false (.load 1 false (.l 0))),(.some [1])),((qR 4 false (.fld 0 (.g 6))),.none),((qR 5 false (.ixa 2 1 (.l 0) (.l 1))),.none),((qS 6 false (.load 1 false (.l 0))),(.some [4])),((qR 7 false (.bin .ge (.l 5) (.l 0))),.none),((qQ 5 (.pick (.l 8) (.c (.s (.bool true))) (.l 0))),.none)])
def jud:IC:=(.draw [((qP (.mv (.g 4))),.none),((qP (.bin .gt (.l 0) (qC 0))),.none),((qP (.mv (.l 0))),.none),((qR 0 true (.mv (.g 1))),.none),((qR 1 true (.mv (.g 4))),.none),((qR 2 true (.bin .sub (.l 0) (qC 1))),.none),((qR 3 true (.ixs 2 (.l 2) (.l 0))),.none),((qR 4 true (.fld 0 (.l 0))),.none),((qS 5 true (.load 1 false (.l 0))),(.some [])),((qR 6 true (.fld 0 (.g 7))),.none),((qS 7 true (.load 1 false (.l 0))),(.some [1])),((qR 8 true (.bin .gt (.l 2) (.l 0))),.none),((qR 9 true (.mv (.l 0))),.none),((qR 0 false (.mv (.g 1))),.none),((qR 1 false (.mv (.g 4))),.none),((qR 2 false (.bin .sub (.l 0) (qC 1))),.none),((qR 3 false (.ixs 2 (.l 2) (.l 0))),.none),((qR 4 false (.fld 0 (.l 0))),.none),((qS 5 false (.load 1 false (.l 0))),(.some [])),((qR 6 false (.fld 0 (.g 7))),.none),((qS 7 false (.load 1 false (.l 0))),(.some [1])),((qR 8 false (.bin .eq (.l 2) (.l 0))),.none),((qR 9 false (.mv (.l 0))),.none),((qR 0 true (.mv (.g 1))),.none),((qR 1 true (.mv (.g 4))),.none),((qR 2 true (.bin .sub (.l 0) (qC 1))),.none),((qR 3 true (.ixs 2 (.l 2) (.l 0))),.none),((qR 4 true (.fld 1 (.l 0))),.none),((qS 5 true (.load 1 false (.l 0))),(.some [])),((qR 6 true (.fld 1 (.g 7))),.none),((qS 7 true (.load 1 false (.l 0))),(.some [1])),((qR 8 true (.bin .ge (.l 2) (.l 0))),.none),((qR 19 false (.pick (.l 9) (.l 0) (.c (.s (.bool false))))),.none),((qR 30 true (.pick (.l 20) (.c (.s (.bool true))) (.l 0))),.none),((qQ 3 (.pick (.l 31) (.l 0) (.c (.s (.bool false))))),.none)])
def jue:IC:=(.seq jud (.cond (.g 3) (.seq (.region [(qQ 2 (.mv (qC 4)))]) .ret) .skip))
def j1w:IC:=(.seq (.block 1 (.seq (.region [(qP (.mv (.g 11))),(qP (.ixs 2 (.g 8) (.g 11))),(qA (.load 2 true (.l 0))),(qB 7 (.new 105 [(.int .i64 0),(.int .i64 0)])),(qQ 4 (.mv (.l 3))),(qA (.store 2 (.l 1) (.l 2)))]) (.seq (.seq j1v (.cond (.g 5) (.seq (.region [(qQ 2 (.mv (qC 2)))]) .ret) .skip)) jue))) (.region [(qP (.bin .add (.g 11) (qC 1))),(qQ 11 (.mv (.l 0)))]))
def jm6:IC:=(.seq (.region [(qQ 9 (.bin .lt (.g 11) (.g 10)))]) (.seq (.cond (.g 9) .skip (.exit 0)) j1w))
def j7e:IC:=(.seq (.region [(qB 6 (.box 25 (.g 0))),(qQ 2 (.mv (qC 0)))]) (.seq (.seq (.region [(qQ 8 (.mv (.g 1))),(qQ 10 (.len (.l 0))),(qQ 11 (.mv (qC 0)))]) (.block 0 (.loop jm6))) (.seq (.region [(qQ 2 (.mv (qC 0)))]) .ret)))
theorem qng:T 69=some (.mk j7e 2 10 [(.tmp 2)]):=by kernel_rfl
def jzt:IC:=(.seq (.region [(qB 7 (.box 48 (.g 0))),(qB 6 (.box 48 (.g 1))),(qQ 2 (.mv (.c (.s (.bool false)))))]) (.seq (.block 0 (.seq (.region [(qP (.fld 0 (.g 7))),(qA (.load 1 false (.l 0))),(qP (.bin .eq (.l 0) (qC 1))),(qP (.mv (.l 0))),(qR 0 true (.fld 0 (.g 6))),(qS 1 true (.load 1 false (.l 0))),(qR 2 true (.bin .eq (.l 0) (qC 1))),(qP (.pick (.l 3) (.l 0) (.c (.s (.bool false))))),(qQ 5 (.mv (.l 0)))]) (.cond (.g 5) (.seq (.region [(qP (.fld 1 (.g 7))),(qA (.load 1 false (.l 0))),(qP (.fld 1 (.g 6))),(qA (.load 1 false (.l 0))),(qP (.bin .ne (.l 2) (.l 0))),(qQ 2 (.mv (.l 0)))]) .ret) (.seq (.region [(qP (.fld 0 (.g 7))),(qA (.load 1 false (.l 0))),(qP (.bin .eq (.l 0) (qC 2))),(qP (.mv (.l 0))),(qR 0 true (.fld 0 (.g 6))),(qS 1 true (.load 1 false (.l 0))),(qR 2 true (.bin .eq (.l 0) (qC 2))),(qP (.pick (.l 3) (.l 0) (.c (.s (.bool false))))),(qQ 4 (.mv (.l 0)))]) (.cond (.g 4) (.seq (.region [(qQ 2 (.mv (.c (.s (.bool true)))))]) .ret) (.seq (.region [(qP (.fld 0 (.g 7))),(qA (.load 1 false (.l 0))),(qP (.bin .eq (.l 0) (qC 2))),(qQ 3 (.mv (.l 0)))]) (.cond (.g 3) (.seq (.region [(qA (.load 5 true (.g 6))),(qA (.load 5 true (.g 7))),(qA (.call 79 [(.l 1),(.l 0)])),(qQ 2 (.mv (.l 0)))]) .ret) .skip))))))) (.seq (.region [(qP (.fld 2 (.g 7))),(qA (.load 1 false (.l 0))),(qP (.mv (.l 0))),(qR 0 false (.fld 2 (.g 6))),(qS 1 false (.load 1 false (.l 0))),(qR 2 false (.not (.l 0))),(qP (.pick (.l 3) (.c (.s (.bool true))) (.l 0))),(qQ 2 (.mv (.l 0)))]) .ret)))
theorem qc5:T 79=some (.mk jzt 2 6 [(.tmp 2)]):=by kernel_rfl
def j1x:IC:=(.draw [((qP (.fld 0 (.g 4))),.none),((qA (.load 1 false (.l 0))),(.some [])),((qP (.fld 1 (.g 9))),.none),((qA (.load 1 false (.l 0))),(.some [1])),((qP (.ixs 1 (.l 2) (.l 0))),.none),((qA (.load 1 false (.l 0))),(.some [])),((qP (.fld 4 (.g 9))),.none),((qA (.load 1 false (.l 0))),(.some [1,3,5])),((qP (.build [(.int .i64 0),(.int .i64 0)] [(0,(1,(.l 2))),(1,(1,(.l 0)))])),.none),((qA (.store 2 (.g 5) (.l 0))),.none),((qQ 3 (.mv (.c (.s (.bool true))))),.none)])
def j1y:IC:=(.seq j1x .ret)
def juf:IC:=(.seq (.seq (.region [(qP (.fld 3 (.g 9))),(qA (.load 1 false (.l 0))),(qQ 6 (.bin .ne (.l 0) (qC 4)))]) (.cond (.g 6) (.seq (.region [(qP (.build [(.int .i64 0),(.int .i64 0)] [])),(qA (.store 2 (.g 5) (.l 0))),(qQ 3 (.mv (.c (.s (.bool false)))))]) .ret) .skip)) j1y)
def j7f:IC:=(.seq (.region [(qB 4 (.box 30 (.g 0))),(qB 7 (.box 46 (.g 1))),(qB 9 (.box 48 (.g 2))),(qB 5 (.new 105 [(.int .i64 0),(.int .i64 0)])),(qQ 3 (.mv (.c (.s (.bool false)))))]) (.seq (.seq (.region [(qP (.fld 3 (.g 9))),(qA (.load 1 false (.l 0))),(qQ 8 (.bin .eq (.l 0) (qC 5)))]) (.cond (.g 8) (.region [(qP (.fld 1 (.g 7))),(qA (.load 1 false (.l 0))),(qP (.fld 4 (.g 9))),(qA (.load 1 false (.l 0))),(qP (.ixs 5 (.l 2) (.l 0))),(qA (.load 5 true (.l 0))),(qA (.store 5 (.g 9) (.l 0)))]) .skip)) juf))
theorem qnh:T 77=some (.mk j7f 3 7 [(.cell 5 2 true),(.tmp 3)]):=by kernel_rfl
def jhb:IC:=(.seq (.region [(qP (.fld 3 (.g 19))),(qA (.load 1 false (.l 0))),(qP (.bin .eq (.l 0) (qC 5))),(qP (.mv (.l 0))),(qR 0 true (.fld 4 (.g 19))),(qS 1 true (.load 1 false (.l 0))),(qR 2 true (.mv (.g 7))),(qR 3 true (.bin .eq (.l 1) (.l 0))),(qP (.pick (.l 4) (.l 0) (.c (.s (.bool false))))),(qP (.mv (.l 0))),(qR 0 false (.fld 3 (.g 9))),(qS 1 false (.load 1 false (.l 0))),(qR 2 false (.bin .eq (.l 0) (qC 5))),(qR 3 false (.mv (.l 0))),(qR 0 true (.fld 4 (.g 9))),(qS 1 true (.load 1 false (.l 0))),(qR 2 true (.mv (.g 14))),(qR 3 true (.bin .eq (.l 1) (.l 0))),(qR 8 false (.pick (.l 4) (.l 0) (.c (.s (.bool false))))),(qP (.pick (.l 9) (.c (.s (.bool true))) (.l 0))),(qQ 4 (.mv (.l 0)))]) (.seq (.region [(qP (.mv (.g 18))),(qP (.mv (.l 0))),(qR 0 true (.mv (.g 6))),(qP (.pick (.l 1) (.l 0) (.c (.s (.bool false))))),(qP (.mv (.l 0))),(qS 0 true (.load 2 true (.g 5))),(qS 1 true (.load 2 true (.g 17))),(qR 2 true (.eqv false true [false,false] (.l 1) (.l 0))),(qP (.pick (.l 3) (.l 0) (.c (.s (.bool false))))),(qP (.mv (.l 0))),(qS 0 true (.load 5 true (.g 19))),(qS 1 true (.load 5 true (.g 9))),(qS 2 true (.call 79 [(.l 1),(.l 0)])),(qP (.pick (.l 3) (.l 0) (.c (.s (.bool false))))),(qP (.mv (.l 0))),(qR 0 true (.mv (.g 4))),(qR 1 true (.not (.l 0))),(qQ 3 (.pick (.l 2) (.l 0) (.c (.s (.bool false)))))]) (.cond (.g 3) (.seq (.region [(qQ 2 (.mv (.c (.s (.bool true)))))]) .ret) .skip)))
def j7g:IC:=(.seq (.block 3 (.seq (.region [(qP (.mv (.g 13))),(qP (.ixs 5 (.g 10) (.g 13))),(qA (.load 5 true (.l 0))),(qB 9 (.new 48 [(.int .i64 0),(.int .i64 0),(.bool false),(.int .i64 0),(.int .i64 0)])),(qQ 7 (.mv (.l 3))),(qA (.store 5 (.l 1) (.l 2)))]) (.seq (.region [(qA (.load 2 true (.g 20))),(qA (.load 3 true (.g 25))),(qA (.load 5 true (.g 9))),(qA (.call 77 [(.l 2),(.l 1),(.l 0)])),(qP (.mv (.l 0))),(qP (.ext 0 (.l 0))),(qP (.ext 1 (.l 1))),(qB 5 (.new 105 [(.int .i64 0),(.int .i64 0)])),(qA (.store 2 (.l 0) (.l 2))),(qQ 6 (.mv (.l 2)))]) (.seq (.seq (.region [(qP (.fld 3 (.g 19))),(qA (.load 1 false (.l 0))),(qP (.bin .eq (.l 0) (qC 5))),(qP (.mv (.l 0))),(qR 0 true (.fld 3 (.g 9))),(qS 1 true (.load 1 false (.l 0))),(qR 2 true (.bin .eq (.l 0) (qC 5))),(qP (.pick (.l 3) (.l 0) (.c (.s (.bool false))))),(qP (.mv (.l 0))),(qR 0 true (.fld 4 (.g 19))),(qS 1 true (.load 1 false (.l 0))),(qR 2 true (.fld 4 (.g 9))),(qS 3 true (.load 1 false (.l 0))),(qR 4 true (.bin .eq (.l 2) (.l 0))),(qQ 8 (.pick (.l 5) (.l 0) (.c (.s (.bool false)))))]) (.cond (.g 8) (.seq (.region [(qQ 2 (.mv (.c (.s (.bool true)))))]) .ret) .skip)) jhb)))) (.region [(qP (.bin .add (.g 13) (qC 1))),(qQ 13 (.mv (.l 0)))]))
def jpy:IC:=(.seq (.region [(qQ 11 (.bin .lt (.g 13) (.g 12)))]) (.seq (.cond (.g 11) .skip (.exit 2)) j7g))
def jzu:IC:=(.seq (.region [(qP (.fld 1 (.g 25))),(qA (.load 1 false (.l 0))),(qP (.mv (.g 14))),(qQ 10 (.slice 5 (.l 1) .none (.some (.l 0)))),(qQ 12 (.len (.l 0))),(qQ 13 (.mv (qC 0)))]) (.block 2 (.loop jpy)))
def j7h:IC:=(.seq (.seq (.region [(qP (.mv (.g 18))),(qP (.mv (.l 0))),(qR 0 true (.fld 0 (.g 19))),(qS 1 true (.load 1 false (.l 0))),(qR 2 true (.bin .eq (.l 0) (qC 2))),(qP (.pick (.l 3) (.l 0) (.c (.s (.bool false))))),(qP (.mv (.l 0))),(qR 0 true (.fld 2 (.g 19))),(qS 1 true (.load 1 false (.l 0))),(qR 2 true (.not (.l 0))),(qP (.pick (.l 3) (.l 0) (.c (.s (.bool false))))),(qP (.mv (.l 0))),(qR 0 true (.fld 2 (.g 25))),(qS 1 true (.load 1 false (.l 0))),(qS 2 true (.load 2 true (.g 17))),(qS 3 true (.call 78 [(.l 1),(.l 0)])),(qQ 15 (.pick (.l 4) (.l 0) (.c (.s (.bool false)))))]) (.cond (.g 15) (.seq (.region [(qQ 2 (.mv (.c (.s (.bool true)))))]) .ret) .skip)) jzu)
def j7i:IC:=(.seq (.block 1 (.seq (.region [(qP (.mv (.g 24))),(qP (.ixs 5 (.g 21) (.g 24))),(qA (.load 5 true (.l 0))),(qB 19 (.new 48 [(.int .i64 0),(.int .i64 0),(.bool false),(.int .i64 0),(.int .i64 0)])),(qQ 14 (.mv (.l 3))),(qA (.store 5 (.l 1) (.l 2)))]) (.seq (.region [(qA (.load 2 true (.g 20))),(qA (.load 3 true (.g 25))),(qA (.load 5 true (.g 19))),(qA (.call 77 [(.l 2),(.l 1),(.l 0)])),(qP (.mv (.l 0))),(qP (.ext 0 (.l 0))),(qP (.ext 1 (.l 1))),(qB 17 (.new 105 [(.int .i64 0),(.int .i64 0)])),(qA (.store 2 (.l 0) (.l 2))),(qQ 18 (.mv (.l 2)))]) (.seq (.seq (.region [(qP (.mv (.g 18))),(qP (.mv (.l 0))),(qR 0 true (.fld 2 (.g 19))),(qS 1 true (.load 1 false (.l 0))),(qP (.pick (.l 2) (.l 0) (.c (.s (.bool false))))),(qP (.mv (.l 0))),(qR 0 true (.fld 2 (.g 25))),(qS 1 true (.load 1 false (.l 0))),(qS 2 true (.load 2 true (.g 17))),(qS 3 true (.call 78 [(.l 1),(.l 0)])),(qQ 16 (.pick (.l 4) (.l 0) (.c (.s (.bool false)))))]) (.cond (.g 16) (.seq (.region [(qQ 2 (.mv (.c (.s (.bool true)))))]) .ret) .skip)) j7h)))) (.region [(qP (.bin .add (.g 24) (qC 1))),(qQ 24 (.mv (.l 0)))]))
def jpz:IC:=(.seq (.region [(qQ 22 (.bin .lt (.g 24) (.g 23)))]) (.seq (.cond (.g 22) .skip (.exit 0)) j7i))
def qc6:IC:=(.seq (.region [(qB 20 (.box 30 (.g 0))),(qB 25 (.box 46 (.g 1))),(qQ 2 (.mv (.c (.s (.bool false)))))]) (.seq (.seq (.region [(qP (.fld 1 (.g 25))),(qB 21 (.load 1 false (.l 0))),(qQ 23 (.len (.l 0))),(qQ 24 (.mv (qC 0)))]) (.block 0 (.loop jpz))) (.seq (.region [(qQ 2 (.mv (.c (.s (.bool false)))))]) .ret)))
theorem qrg:T 70=some (.mk qc6 2 24 [(.tmp 2)]):=by kernel_rfl
def qc7:IC:=(.seq (.block 1 (.seq (.region [(qP (.ixs 2 (.g 16) (.g 19))),(qA (.load 2 true (.l 0))),(qB 15 (.new 105 [(.int .i64 0),(.int .i64 0)])),(qA (.store 2 (.l 0) (.l 1)))]) (.seq (.region [(qP (.fld 0 (.g 15))),(qA (.load 1 false (.l 0))),(qP (.mv (.g 3))),(qQ 14 (.bin .eq (.l 1) (.l 0)))]) (.cond (.g 14) (.region [(qP (.mv (.g 13))),(qP (.bin .add (.l 0) (qC 1))),(qQ 13 (.mv (.l 0)))]) .skip)))) (.region [(qP (.bin .add (.g 19) (qC 1))),(qQ 19 (.mv (.l 0)))]))
def j1z:IC:=(.seq (.region [(qQ 17 (.bin .lt (.g 19) (.g 18)))]) (.seq (.cond (.g 17) .skip (.exit 0)) qc7))
def qc8:IC:=(.seq (.block 3 (.seq (.region [(qP (.ixs 5 (.g 9) (.g 12))),(qA (.load 5 true (.l 0))),(qB 7 (.new 48 [(.int .i64 0),(.int .i64 0),(.bool false),(.int .i64 0),(.int .i64 0)])),(qA (.store 5 (.l 0) (.l 1)))]) (.seq (.region [(qP (.fld 0 (.g 8))),(qA (.load 1 false (.l 0))),(qP (.fld 1 (.g 7))),(qA (.load 1 false (.l 0))),(qP (.ixs 1 (.l 2) (.l 0))),(qA (.load 1 false (.l 0))),(qP (.mv (.g 3))),(qP (.bin .eq (.l 1) (.l 0))),(qP (.mv (.l 0))),(qR 0 true (.fld 3 (.g 7))),(qS 1 true (.load 1 false (.l 0))),(qR 2 true (.bin .ne (.l 0) (qC 1))),(qP (.pick (.l 3) (.l 0) (.c (.s (.bool false))))),(qP (.mv (.l 0))),(qR 0 true (.fld 3 (.g 7))),(qS 1 true (.load 1 false (.l 0))),(qR 2 true (.bin .ne (.l 0) (qC 3))),(qQ 6 (.pick (.l 3) (.l 0) (.c (.s (.bool false)))))]) (.cond (.g 6) (.region [(qP (.mv (.g 13))),(qP (.bin .add (.l 0) (qC 1))),(qQ 13 (.mv (.l 0)))]) .skip)))) (.region [(qP (.bin .add (.g 12) (qC 1))),(qQ 12 (.mv (.l 0)))]))
def jw2:IC:=(.seq (.region [(qQ 10 (.bin .lt (.g 12) (.g 11)))]) (.seq (.cond (.g 10) .skip (.exit 2)) qc8))
def qni:IC:=(.seq (.region [(qB 8 (.box 30 (.g 0))),(qB 5 (.box 25 (.g 1))),(qB 20 (.box 46 (.g 2))),(qQ 4 (.mv (.c (.s (.bool false)))))]) (.seq (.region [(qQ 13 (.mv (qC 0)))]) (.seq (.seq (.region [(qP (.fld 2 (.g 20))),(qB 16 (.load 1 false (.l 0))),(qQ 18 (.len (.l 0))),(qQ 19 (.mv (qC 0)))]) (.block 0 (.loop j1z))) (.seq (.seq (.region [(qP (.fld 1 (.g 20))),(qB 9 (.load 1 false (.l 0))),(qQ 11 (.len (.l 0))),(qQ 12 (.mv (qC 0)))]) (.block 2 (.loop jw2))) (.seq (.region [(qP (.mv (.g 13))),(qP (.mv (.g 3))),(qP (.fld 0 (.g 5))),(qP (.ixa 2 1 (.l 0) (.l 1))),(qA (.load 1 false (.l 0))),(qP (.bin .lt (.l 4) (.l 0))),(qQ 4 (.mv (.l 0)))]) .ret)))))
theorem qt3:T 71=some (.mk qni 4 17 [(.tmp 4)]):=by kernel_rfl
def j7j:IC:=(.seq (.block 1 (.seq (.region [(qP (.ixs 5 (.g 24) (.g 27))),(qA (.load 5 true (.l 0))),(qB 21 (.new 48 [(.int .i64 0),(.int .i64 0),(.bool false),(.int .i64 0),(.int .i64 0)])),(qA (.store 5 (.l 0) (.l 1)))]) (.seq (.region [(qA (.load 2 true (.g 23))),(qA (.load 2 true (.g 22))),(qA (.load 5 true (.g 21))),(qA (.call 67 [(.l 2),(.l 1),(.l 0)])),(qQ 20 (.mv (.l 0)))]) (.seq (.region [(qP (.mv (.g 20))),(qQ 19 (.bin .ne (.l 0) (qC 0)))]) (.cond (.g 19) (.seq (.region [(qP (.mv (.g 20))),(qQ 3 (.mv (.l 0)))]) .ret) .skip))))) (.region [(qP (.bin .add (.g 27) (qC 1))),(qQ 27 (.mv (.l 0)))]))
def jug:IC:=(.seq (.region [(qQ 25 (.bin .lt (.g 27) (.g 26)))]) (.seq (.cond (.g 25) .skip (.exit 0)) j7j))
def j7k:IC:=(.seq (.region [(qA (.load 2 true (.g 23))),(qA (.load 3 true (.g 29))),(qA (.load 5 true (.g 14))),(qA (.call 68 [(.l 2),(.l 1),(.l 0)])),(qQ 12 (.mv (.l 0)))]) (.seq (.region [(qP (.mv (.g 12))),(qQ 11 (.bin .ne (.l 0) (qC 0)))]) (.cond (.g 11) (.seq (.region [(qP (.mv (.g 12))),(qQ 3 (.mv (.l 0)))]) .ret) .skip)))
def j7l:IC:=(.seq (.block 3 (.seq (.region [(qP (.ixs 5 (.g 15) (.g 18))),(qA (.load 5 true (.l 0))),(qB 14 (.new 48 [(.int .i64 0),(.int .i64 0),(.bool false),(.int .i64 0),(.int .i64 0)])),(qA (.store 5 (.l 0) (.l 1)))]) (.seq (.seq (.region [(qP (.fld 3 (.g 14))),(qA (.load 1 false (.l 0))),(qQ 13 (.bin .ne (.l 0) (qC 5)))]) (.cond (.g 13) (.exit 3) .skip)) j7k))) (.region [(qP (.bin .add (.g 18) (qC 1))),(qQ 18 (.mv (.l 0)))]))
def jp0:IC:=(.seq (.region [(qQ 16 (.bin .lt (.g 18) (.g 17)))]) (.seq (.cond (.g 16) .skip (.exit 2)) j7l))
def j7m:IC:=(.seq (.block 5 (.seq (.region [(qP (.mv (.g 7))),(qQ 5 (.mv (.l 0)))]) (.seq (.region [(qA (.load 2 true (.g 23))),(qA (.load 2 true (.g 22))),(qA (.load 3 true (.g 29))),(qP (.mv (.g 5))),(qA (.call 71 [(.l 3),(.l 2),(.l 1),(.l 0)])),(qQ 4 (.not (.l 0)))]) (.cond (.g 4) (.seq (.region [(qQ 3 (.mv (qC 8)))]) .ret) .skip)))) (.region [(qP (.bin .add (.g 7) (qC 1))),(qQ 7 (.mv (.l 0)))]))
def j7n:IC:=(.seq (.region [(qQ 6 (.bin .lt (.g 7) (qC 2)))]) (.seq (.cond (.g 6) .skip (.exit 4)) j7m))
def j7o:IC:=(.seq (.seq (.region [(qQ 7 (.mv (qC 0)))]) (.block 4 (.loop j7n))) (.seq (.region [(qQ 3 (.mv (qC 0)))]) .ret))
def j7p:IC:=(.seq (.seq (.region [(qA (.load 2 true (.g 23))),(qA (.load 3 true (.g 29))),(qB 8 (.call 70 [(.l 1),(.l 0)]))]) (.cond (.g 8) (.seq (.region [(qQ 3 (.mv (qC 12)))]) .ret) .skip)) j7o)
def j7q:IC:=(.seq (.seq (.region [(qP (.fld 1 (.g 29))),(qB 24 (.load 1 false (.l 0))),(qQ 26 (.len (.l 0))),(qQ 27 (.mv (qC 0)))]) (.block 0 (.loop jug))) (.seq (.seq (.region [(qP (.fld 1 (.g 29))),(qB 15 (.load 1 false (.l 0))),(qQ 17 (.len (.l 0))),(qQ 18 (.mv (qC 0)))]) (.block 2 (.loop jp0))) (.seq (.seq (.region [(qA (.load 2 true (.g 22))),(qP (.fld 2 (.g 29))),(qA (.load 1 false (.l 0))),(qA (.call 69 [(.l 2),(.l 0)])),(qQ 10 (.mv (.l 0)))]) (.seq (.region [(qP (.mv (.g 10))),(qQ 9 (.bin .ne (.l 0) (qC 0)))]) (.cond (.g 9) (.seq (.region [(qP (.mv (.g 10))),(qQ 3 (.mv (.l 0)))]) .ret) .skip))) j7p)))
def qc9:IC:=(.seq (.region [(qB 23 (.box 30 (.g 0))),(qB 22 (.box 25 (.g 1))),(qB 29 (.box 46 (.g 2))),(qQ 3 (.mv (qC 0)))]) (.seq (.seq (.region [(qP (.fld 0 (.g 29))),(qA (.load 1 false (.l 0))),(qP (.bin .lt (.l 0) (qC 0))),(qP (.mv (.l 0))),(qR 0 false (.fld 0 (.g 29))),(qS 1 false (.load 1 false (.l 0))),(qR 2 false (.bin .gt (.l 0) (qC 255))),(qQ 28 (.pick (.l 3) (.c (.s (.bool true))) (.l 0)))]) (.cond (.g 28) (.seq (.region [(qQ 3 (.mv (qC 2)))]) .ret) .skip)) j7q))
theorem qrh:T 48=some (.mk qc9 3 27 [(.tmp 3)]):=by kernel_rfl
def j10:IC:=(.draw [((qA (.load 2 true (.g 14))),(.some [])),((qP (.mv (.g 12))),.none),((qP (.mv (.g 4))),.none),((qP (.ixs 1 (.l 1) (.l 0))),.none),((qA (.load 1 false (.l 0))),(.some [3])),((qA (.call 72 [(.l 4),(.l 0)])),(.some [])),((qP (.not (.l 0))),.none),((qP (.mv (.l 0))),.none),((qR 0 false (.fld 0 (.g 14))),.none),((qS 1 false (.load 1 false (.l 0))),(.some [])),((qR 2 false (.mv (.g 12))),.none),((qR 3 false (.mv (.g 4))),.none),((qR 4 false (.ixs 1 (.l 1) (.l 0))),.none),((qS 5 false (.load 1 false (.l 0))),(.some [3])),((qR 6 false (.ixs 1 (.l 4) (.l 0))),.none),((qS 7 false (.load 1 false (.l 0))),(.some [])),((qR 8 false (.fld 0 (.g 14))),.none),((qS 9 false (.load 1 false (.l 0))),(.some [1,3,7])),((qR 10 false (.mv (.g 6))),.none),((qR 11 false (.ixs 1 (.l 1) (.l 0))),.none),((qS 12 false (.load 1 false (.l 0))),(.some [4,6,10])),((qR 13 false (.bin .ne (.l 5) (.l 0))),.none),((qQ 3 (.pick (.l 14) (.c (.s (.bool true))) (.l 0))),.none)])
def j11:IC:=(.seq j10 (.cond (.g 3) (.seq (.region [(qQ 2 (.mv (qC 17)))]) .ret) .skip))
def j12:IC:=(.seq (.block 1 (.seq (.region [(qP (.mv (.g 10))),(qP (.ixs 1 (.g 7) (.g 10))),(qA (.load 1 false (.l 0))),(qQ 4 (.mv (.l 2))),(qQ 6 (.mv (.l 1)))]) (.seq (.seq (.region [(qA (.load 2 true (.g 14))),(qP (.mv (.g 6))),(qA (.call 72 [(.l 1),(.l 0)])),(qQ 5 (.not (.l 0)))]) (.cond (.g 5) (.seq (.region [(qQ 2 (.mv (qC 2)))]) .ret) .skip)) j11))) (.region [(qP (.bin .add (.g 10) (qC 1))),(qQ 10 (.mv (.l 0)))]))
def jm7:IC:=(.seq (.region [(qQ 8 (.bin .lt (.g 10) (.g 9)))]) (.seq (.cond (.g 8) .skip (.exit 0)) j12))
def j13:IC:=(.seq (.seq (.region [(qP (.fld 1 (.g 15))),(qB 7 (.load 1 false (.l 0))),(qQ 9 (.len (.l 0))),(qQ 10 (.mv (qC 0)))]) (.block 0 (.loop jm7))) (.seq (.region [(qQ 2 (.mv (qC 0)))]) .ret))
def j14:IC:=(.seq (.region [(qP (.fld 1 (.g 14))),(qA (.load 1 false (.l 0))),(qP (.fld 0 (.g 15))),(qA (.load 1 false (.l 0))),(qP (.ixs 3 (.l 2) (.l 0))),(qP (.fld 0 (.l 0))),(qA (.load 1 false (.l 0))),(qQ 12 (.mv (.l 0)))]) (.seq (.seq (.region [(qP (.fld 1 (.g 15))),(qA (.load 1 false (.l 0))),(qP (.len (.l 0))),(qP (.mv (.g 12))),(qP (.len (.l 0))),(qQ 11 (.bin .ne (.l 2) (.l 0)))]) (.cond (.g 11) (.seq (.region [(qQ 2 (.mv (qC 4)))]) .ret) .skip)) j13))
def j7r:IC:=(.seq (.region [(qB 14 (.box 30 (.g 0))),(qB 15 (.box 56 (.g 1))),(qQ 2 (.mv (qC 0)))]) (.seq (.seq (.region [(qP (.fld 0 (.g 15))),(qA (.load 1 false (.l 0))),(qP (.bin .lt (.l 0) (qC 1))),(qP (.mv (.l 0))),(qR 0 false (.fld 0 (.g 15))),(qS 1 false (.load 1 false (.l 0))),(qR 2 false (.fld 1 (.g 14))),(qS 3 false (.load 1 false (.l 0))),(qR 4 false (.len (.l 0))),(qR 5 false (.bin .ge (.l 3) (.l 0))),(qQ 13 (.pick (.l 6) (.c (.s (.bool true))) (.l 0)))]) (.cond (.g 13) (.seq (.region [(qQ 2 (.mv (qC 6)))]) .ret) .skip)) j14))
theorem qnj:T 49=some (.mk j7r 2 14 [(.tmp 2)]):=by kernel_rfl
def j7s:IC:=(.seq (.block 3 (.seq (.region [(qP (.ixs 1 (.g 20) (.g 23))),(qA (.load 1 false (.l 0))),(qQ 18 (.mv (.l 0)))]) (.seq (.region [(qP (.mv (.g 19))),(qP (.mv (.g 18))),(qA (.callv (.l 1) [(.l 0)])),(qQ 17 (.mv (.l 0)))]) (.seq (.region [(qP (.mv (.g 17))),(qQ 16 (.bin .ne (.l 0) (qC 0)))]) (.cond (.g 16) (.seq (.region [(qP (.mv (.g 17))),(qQ 1 (.mv (.l 0)))]) .ret) .skip))))) (.region [(qP (.bin .add (.g 23) (qC 1))),(qQ 23 (.mv (.l 0)))]))
def juh:IC:=(.seq (.region [(qQ 21 (.bin .lt (.g 23) (.g 22)))]) (.seq (.cond (.g 21) .skip (.exit 2)) j7s))
def j7t:IC:=(.seq (.region [(qP (.mv (.g 19))),(qP (.fld 1 (.g 6))),(qA (.load 1 false (.l 0))),(qA (.callv (.l 2) [(.l 0)])),(qQ 4 (.mv (.l 0)))]) (.seq (.region [(qP (.mv (.g 4))),(qQ 3 (.bin .ne (.l 0) (qC 0)))]) (.cond (.g 3) (.seq (.region [(qP (.mv (.g 4))),(qQ 1 (.mv (.l 0)))]) .ret) .skip)))
def j7u:IC:=(.seq (.block 7 (.seq (.region [(qP (.ixs 5 (.g 7) (.g 10))),(qA (.load 5 true (.l 0))),(qB 6 (.new 48 [(.int .i64 0),(.int .i64 0),(.bool false),(.int .i64 0),(.int .i64 0)])),(qA (.store 5 (.l 0) (.l 1)))]) (.seq (.seq (.region [(qP (.fld 0 (.g 6))),(qA (.load 1 false (.l 0))),(qQ 5 (.bin .ne (.l 0) (qC 2)))]) (.cond (.g 5) (.exit 7) .skip)) j7t))) (.region [(qP (.bin .add (.g 10) (qC 1))),(qQ 10 (.mv (.l 0)))]))
def jui:IC:=(.seq (.region [(qQ 8 (.bin .lt (.g 10) (.g 9)))]) (.seq (.cond (.g 8) .skip (.exit 6)) j7u))
def j7v:IC:=(.seq (.block 5 (.seq (.region [(qP (.ixs 3 (.g 12) (.g 15))),(qA (.load 3 true (.l 0))),(qB 11 (.new 46 [(.int .i64 0),.nilSlice,.nilSlice])),(qA (.store 3 (.l 0) (.l 1)))]) (.seq (.region [(qP (.fld 1 (.g 11))),(qB 7 (.load 1 false (.l 0))),(qQ 9 (.len (.l 0))),(qQ 10 (.mv (qC 0)))]) (.block 6 (.loop jui))))) (.region [(qP (.bin .add (.g 15) (qC 1))),(qQ 15 (.mv (.l 0)))]))
def juj:IC:=(.seq (.region [(qQ 13 (.bin .lt (.g 15) (.g 14)))]) (.seq (.cond (.g 13) .skip (.exit 4)) j7v))
def j7w:IC:=(.seq (.block 1 (.seq (.region [(qP (.ixs 3 (.g 25) (.g 28))),(qA (.load 3 true (.l 0))),(qB 24 (.new 42 [.nilSlice,.nilSlice,.nilSlice])),(qA (.store 3 (.l 0) (.l 1)))]) (.seq (.seq (.region [(qP (.fld 0 (.g 24))),(qB 20 (.load 1 false (.l 0))),(qQ 22 (.len (.l 0))),(qQ 23 (.mv (qC 0)))]) (.block 2 (.loop juh))) (.seq (.region [(qP (.fld 1 (.g 24))),(qB 12 (.load 1 false (.l 0))),(qQ 14 (.len (.l 0))),(qQ 15 (.mv (qC 0)))]) (.block 4 (.loop juj)))))) (.region [(qP (.bin .add (.g 28) (qC 1))),(qQ 28 (.mv (.l 0)))]))
def juk:IC:=(.seq (.region [(qQ 26 (.bin .lt (.g 28) (.g 27)))]) (.seq (.cond (.g 26) .skip (.exit 0)) j7w))
def j7x:IC:=(.seq (.region [(qQ 1 (.mv (qC 0)))]) .ret)
def qda:IC:=(.seq (.region [(qB 30 (.box 30 (.g 0))),(qQ 1 (.mv (qC 0)))]) (.seq (.region [(qP (.fld 0 (.g 30))),(qA (.load 1 false (.l 0))),(qP (.len (.l 0))),(qA (.mkslice 4 1 1 [(.bool false)] (.l 0) (.l 0))),(qB 29 (.new 110 [.nilSlice])),(qA (.store 1 (.l 0) (.l 1)))]) (.seq (.region [(qP (.mkfun 73 [(.g 30),(.g 29)])),(qQ 19 (.mv (.l 0)))]) (.seq (.seq (.region [(qP (.fld 1 (.g 30))),(qB 25 (.load 1 false (.l 0))),(qQ 27 (.len (.l 0))),(qQ 28 (.mv (qC 0)))]) (.block 0 (.loop juk))) (.seq (.seq (.region [(qA (.load 1 false (.g 29))),(qB 2 (.call 74 [(.l 0),(.c (.s (.bool false)))]))]) (.cond (.g 2) (.seq (.region [(qQ 1 (.mv (qC 6)))]) .ret) .skip)) j7x)))))
theorem qri:T 50=some (.mk qda 1 30 [(.tmp 1)]):=by kernel_rfl
def j7y:IC:=(.seq (.region [(qA (.load 1 false (.g 2))),(qP (.mv (.g 0))),(qP (.ixs 1 (.l 1) (.l 0))),(qA (.store 1 (.l 0) (.c (.s (.bool true)))))]) (.seq (.region [(qQ 3 (.mv (qC 0)))]) .ret))
def j7z:IC:=(.seq (.seq (.region [(qA (.load 1 false (.g 2))),(qP (.mv (.g 0))),(qP (.ixs 1 (.l 1) (.l 0))),(qB 4 (.load 1 false (.l 0)))]) (.cond (.g 4) (.seq (.region [(qQ 3 (.mv (qC 7)))]) .ret) .skip)) j7y)
def qdb:IC:=(.seq (.region [(qQ 3 (.mv (qC 0)))]) (.seq (.seq (.region [(qA (.load 2 true (.g 1))),(qP (.mv (.g 0))),(qA (.call 72 [(.l 1),(.l 0)])),(qQ 5 (.not (.l 0)))]) (.cond (.g 5) (.seq (.region [(qQ 3 (.mv (qC 2)))]) .ret) .skip)) j7z))
theorem qrj:T 73=some (.mk qdb 3 3 [(.tmp 3)]):=by kernel_rfl
def j70:IC:=(.seq (.block 1 (.seq (.region [(qP (.ixs 1 (.g 26) (.g 29))),(qA (.load 1 false (.l 0))),(qQ 25 (.mv (.l 0)))]) (.seq (.region [(qP (.mv (.g 25))),(qP (.bin .lt (.l 0) (qC 0))),(qP (.mv (.l 0))),(qR 0 false (.mv (.g 25))),(qR 1 false (.bin .ge (.l 0) (qC 2))),(qQ 24 (.pick (.l 2) (.c (.s (.bool true))) (.l 0)))]) (.cond (.g 24) (.seq (.region [(qQ 2 (.mv (qC 17)))]) .ret) .skip)))) (.region [(qP (.bin .add (.g 29) (qC 1))),(qQ 29 (.mv (.l 0)))]))
def jul:IC:=(.seq (.region [(qQ 27 (.bin .lt (.g 29) (.g 28)))]) (.seq (.cond (.g 27) .skip (.exit 0)) j70))
def j71:IC:=(.seq (.block 5 (.seq (.region [(qP (.ixs 3 (.g 14) (.g 17))),(qA (.load 3 true (.l 0))),(qB 13 (.new 46 [(.int .i64 0),.nilSlice,.nilSlice])),(qA (.store 3 (.l 0) (.l 1)))]) (.seq (.region [(qA (.load 2 true (.g 32))),(qA (.load 2 true (.g 35))),(qA (.load 3 true (.g 13))),(qA (.call 48 [(.l 2),(.l 1),(.l 0)])),(qQ 12 (.mv (.l 0)))]) (.seq (.region [(qP (.mv (.g 12))),(qQ 11 (.bin .ne (.l 0) (qC 0)))]) (.cond (.g 11) (.seq (.region [(qP (.mv (.g 12))),(qQ 2 (.mv (.l 0)))]) .ret) .skip))))) (.region [(qP (.bin .add (.g 17) (qC 1))),(qQ 17 (.mv (.l 0)))]))
def jum:IC:=(.seq (.region [(qQ 15 (.bin .lt (.g 17) (.g 16)))]) (.seq (.cond (.g 15) .skip (.exit 4)) j71))
def j72:IC:=(.seq (.block 7 (.seq (.region [(qP (.ixs 2 (.g 6) (.g 9))),(qA (.load 2 true (.l 0))),(qB 5 (.new 56 [(.int .i64 0),.nilSlice])),(qA (.store 2 (.l 0) (.l 1)))]) (.seq (.region [(qA (.load 2 true (.g 32))),(qA (.load 2 true (.g 5))),(qA (.call 49 [(.l 1),(.l 0)])),(qQ 4 (.mv (.l 0)))]) (.seq (.region [(qP (.mv (.g 4))),(qQ 3 (.bin .ne (.l 0) (qC 0)))]) (.cond (.g 3) (.seq (.region [(qP (.mv (.g 4))),(qQ 2 (.mv (.l 0)))]) .ret) .skip))))) (.region [(qP (.bin .add (.g 9) (qC 1))),(qQ 9 (.mv (.l 0)))]))
def jun:IC:=(.seq (.region [(qQ 7 (.bin .lt (.g 9) (.g 8)))]) (.seq (.cond (.g 7) .skip (.exit 6)) j72))
def jzv:IC:=(.seq (.region [(qP (.fld 2 (.g 18))),(qB 6 (.load 1 false (.l 0))),(qQ 8 (.len (.l 0))),(qQ 9 (.mv (qC 0)))]) (.block 6 (.loop jun)))
def j73:IC:=(.seq (.block 3 (.seq (.region [(qP (.ixs 3 (.g 19) (.g 22))),(qA (.load 3 true (.l 0))),(qB 18 (.new 42 [.nilSlice,.nilSlice,.nilSlice])),(qA (.store 3 (.l 0) (.l 1)))]) (.seq (.seq (.region [(qP (.fld 1 (.g 18))),(qB 14 (.load 1 false (.l 0))),(qQ 16 (.len (.l 0))),(qQ 17 (.mv (qC 0)))]) (.block 4 (.loop jum))) (.seq (.seq (.region [(qP (.fld 2 (.g 18))),(qA (.load 1 false (.l 0))),(qP (.len (.l 0))),(qP (.bin .gt (.l 0) (qC 1))),(qP (.mv (.l 0))),(qR 0 true (.fld 1 (.g 18))),(qS 1 true (.load 1 false (.l 0))),(qR 2 true (.len (.l 0))),(qR 3 true (.bin .eq (.l 0) (qC 0))),(qQ 10 (.pick (.l 4) (.l 0) (.c (.s (.bool false)))))]) (.cond (.g 10) (.seq (.region [(qQ 2 (.mv (qC 4)))]) .ret) .skip)) jzv)))) (.region [(qP (.bin .add (.g 22) (qC 1))),(qQ 22 (.mv (.l 0)))]))
def juo:IC:=(.seq (.region [(qQ 20 (.bin .lt (.g 22) (.g 21)))]) (.seq (.cond (.g 20) .skip (.exit 2)) j73))
def j74:IC:=(.seq (.seq (.region [(qP (.fld 1 (.g 32))),(qB 19 (.load 1 false (.l 0))),(qQ 21 (.len (.l 0))),(qQ 22 (.mv (qC 0)))]) (.block 2 (.loop juo))) (.seq (.region [(qA (.load 2 true (.g 32))),(qA (.call 50 [(.l 0)])),(qQ 2 (.mv (.l 0)))]) .ret))
def j75:IC:=(.seq (.seq (.region [(qP (.fld 0 (.g 32))),(qB 26 (.load 1 false (.l 0))),(qQ 28 (.len (.l 0))),(qQ 29 (.mv (qC 0)))]) (.block 0 (.loop jul))) (.seq (.seq (.region [(qP (.fld 1 (.g 32))),(qA (.load 1 false (.l 0))),(qP (.ixs 3 (.l 0) (qC 0))),(qP (.fld 0 (.l 0))),(qA (.load 1 false (.l 0))),(qP (.len (.l 0))),(qQ 23 (.bin .gt (.l 0) (qC 0)))]) (.cond (.g 23) (.seq (.region [(qQ 2 (.mv (qC 4)))]) .ret) .skip)) j74))
def j76:IC:=(.seq (.seq (.region [(qA (.load 2 true (.g 32))),(qA (.call 47 [(.l 0)])),(qQ 31 (.mv (.l 0)))]) (.seq (.region [(qP (.mv (.g 31))),(qQ 30 (.bin .ne (.l 0) (qC 0)))]) (.cond (.g 30) (.seq (.region [(qP (.mv (.g 31))),(qQ 2 (.mv (.l 0)))]) .ret) .skip))) j75)
def qdc:IC:=(.seq (.region [(qB 32 (.box 30 (.g 0))),(qB 35 (.box 25 (.g 1))),(qQ 2 (.mv (qC 0)))]) (.seq (.seq (.region [(qA (.load 2 true (.g 35))),(qA (.call 46 [(.l 0)])),(qQ 34 (.mv (.l 0)))]) (.seq (.region [(qP (.mv (.g 34))),(qQ 33 (.bin .ne (.l 0) (qC 0)))]) (.cond (.g 33) (.seq (.region [(qP (.mv (.g 34))),(qQ 2 (.mv (.l 0)))]) .ret) .skip))) j76))
theorem qrk:T 33=some (.mk qdc 2 34 [(.tmp 2)]):=by kernel_rfl
def qdd:IC:=(.seq (.region [(qB 3 (.box 105 (.g 1))),(qQ 2 (.mv (.c (.s (.bool false)))))]) (.seq (.region [(qP (.mv (.g 0))),(qA (.load 2 true (.g 3))),(qA (.call 83 [(.l 1),(.l 0)])),(qP (.bin .ge (.l 0) (qC 0))),(qQ 2 (.mv (.l 0)))]) .ret))
theorem qrl:T 78=some (.mk qdd 2 2 [(.tmp 2)]):=by kernel_rfl
def j15:IC:=(.draw [((qA (.load 2 true (.g 5))),(.some [])),((qP (.mv (.g 0))),.none),((qP (.mv (.g 4))),.none),((qP (.ixs 2 (.l 1) (.l 0))),.none),((qA (.load 2 true (.l 0))),(.some [3])),((qQ 3 (.eqv false true [false,false] (.l 4) (.l 0))),.none)])
def j16:IC:=(.seq (.block 1 (.seq (.region [(qP (.mv (.g 8))),(qQ 4 (.mv (.l 0)))]) (.seq j15 (.cond (.g 3) (.seq (.region [(qP (.mv (.g 4))),(qQ 2 (.mv (.l 0)))]) .ret) .skip)))) (.region [(qP (.bin .add (.g 8) (qC 1))),(qQ 8 (.mv (.l 0)))]))
def jm8:IC:=(.seq (.region [(qQ 6 (.bin .lt (.g 8) (.g 7)))]) (.seq (.cond (.g 6) .skip (.exit 0)) j16))
def j77:IC:=(.seq (.region [(qB 5 (.box 105 (.g 1))),(qQ 2 (.mv (qC 0)))]) (.seq (.seq (.region [(qP (.mv (.g 0))),(qQ 7 (.len (.l 0))),(qQ 8 (.mv (qC 0)))]) (.block 0 (.loop jm8))) (.seq (.region [(qQ 2 (.mv (qC (-1))))]) .ret)))
theorem qnk:T 83=some (.mk j77 2 7 [(.tmp 2)]):=by kernel_rfl
def qde:IC:=(.seq (.region [(qQ 2 (.mv (.c (.s (.bool false)))))]) (.seq (.region [(qP (.mv (.g 0))),(qP (.mv (.g 1))),(qA (.call 80 [(.l 1),(.l 0)])),(qP (.bin .ge (.l 0) (qC 0))),(qQ 2 (.mv (.l 0)))]) .ret))
theorem qrm:T 74=some (.mk qde 2 1 [(.tmp 2)]):=by kernel_rfl
def j17:IC:=(.seq (.block 1 (.seq (.region [(qP (.mv (.g 7))),(qQ 4 (.mv (.l 0)))]) (.seq (.region [(qP (.mv (.g 1))),(qP (.mv (.g 0))),(qP (.mv (.g 4))),(qP (.ixs 1 (.l 1) (.l 0))),(qA (.load 1 false (.l 0))),(qQ 3 (.eqv false false [true] (.l 4) (.l 0)))]) (.cond (.g 3) (.seq (.region [(qP (.mv (.g 4))),(qQ 2 (.mv (.l 0)))]) .ret) .skip)))) (.region [(qP (.bin .add (.g 7) (qC 1))),(qQ 7 (.mv (.l 0)))]))
def jm9:IC:=(.seq (.region [(qQ 5 (.bin .lt (.g 7) (.g 6)))]) (.seq (.cond (.g 5) .skip (.exit 0)) j17))
def j78:IC:=(.seq (.region [(qQ 2 (.mv (qC 0)))]) (.seq (.seq (.region [(qP (.mv (.g 0))),(qQ 6 (.len (.l 0))),(qQ 7 (.mv (qC 0)))]) (.block 0 (.loop jm9))) (.seq (.region [(qQ 2 (.mv (qC (-1))))]) .ret)))
theorem qnl:T 80=some (.mk j78 2 6 [(.tmp 2)]):=by kernel_rfl
open Go Go.RowKit Go.Proofs.Ytehhjbfmjdlcjaa.Ms
variable {x0 x1 x16 x17:AV} {lt agg ult:Bool} {Q:Ex->St->Prop} {f:Fc} {h:Hp} {fr st:List AV} {v kd lm un vl ukd ulm uvl:Nat} {a:SV}
attribute [local go_sem] f0k f0p f0r decide_eq_true_eq decide_eq_false_iff_not f0e and_true true_and f0n f0o reduceCtorEq decide_true decide_false f03 f0y f0s f0i Option.some.injEq f0l not_true_eq_false not_false_eq_true Hp.next_push Hp.next_put f0v Int.reduceToNat Nat.reduceAdd Nat.reduceMul Nat.reduceEqDiff Int.reduceEq Int.reduceLT Int.reduceLE Int.reduceNeg Int.reduceAdd Int.reduceSub Int.reduceMul Int.reduceNe
attribute [local go_sem ↓] reduceIte
set_option maxHeartbeats 2000000
theorem jfh (ok:Ok h) (cs:List SV) (ty:Nat):∃ hA,h.push (AB.arr cs ty)=hA/\Ok hA/\hA.next=h.next+1/\hA.get h.next=some (.arr cs ty)/\∀ k,k<h.next->hA.get k=h.get k :=
 ⟨_,rfl,jac ok,Hp.next_push ..,by rw [jaw ok,if_pos rfl],fun k hk=>by rw [jaw ok,if_neg (by omega)]⟩
theorem jcl (ok:Ok h) (zs cs:List SV) (ty:Nat):∃ hA,(h.push (AB.arr zs ty)).put h.next (some (.arr cs ty))=hA/\Ok hA/\hA.next=h.next+1/\hA.get h.next=some (.arr cs ty)/\∀ k,k<h.next->hA.get k=h.get k:=by
 have hp:=ok.pos
 exact ⟨_,rfl,jad (jac ok),by rw [Hp.next_put,Hp.next_push],by rw [jal (jac ok) hp,if_pos rfl],fun k hk=>by rw [jal (jac ok) hp,if_neg (by omega),jaw ok,if_neg (by omega)]⟩
noncomputable def qgm (n size:Nat) (agg:Bool) (x i:Option AV):Option AV:=ob x (fun v=>ob i (fun w=>AV.casesOn (motive:=fun _=>Option AV) v (fun _=>none) (fun cs=>jix w n (fun m=>ob (jbw size (jb7 (Nat.mul m size) cs)) (fun cs=>je3 agg cs))) (fun _=>none) none none))
theorem j79 {n size:Nat} {x i:Od}:pop st fr (.ival n size agg x i)=qgm n size agg (ev st fr x) (ev st fr i):=rfl
theorem qgn {b:SV}:qgm 2 1 false (some (.agg [a,b])) (some (vi 0))=some (.s a):=rfl
theorem qgo {b:SV}:qgm 2 1 false (some (.agg [a,b])) (some (vi 1))=some (.s b):=rfl
noncomputable def qrn (neg agg:Bool) (sig:List Bool) (x y:Option AV):Option AV:=ob x (fun a=>ob y (fun b=>jxm agg a (fun xs=>jxm agg b (fun ys=>ob (jbj sig xs ys) (fun e=>some (AV.s (SV.bool (oif neg (jhg e) e))))))))
theorem jrt {neg:Bool} {sig:List Bool} {x y:Od}:pop st fr (.eqv neg agg sig x y)=qrn neg agg sig (ev st fr x) (ev st fr y):=rfl
theorem qp9 {a b c d:Int}:qrn false true [false,false] (some (.agg [.int .i64 a,.int .i64 b])) (some (.agg [.int .i64 c,.int .i64 d]))=some (vb (decide (a=c/\b=d))):=by
 show some (AV.s (SV.bool (oif (ieq a c) (oif (ieq b d) true false) false)))=_
 rw [jcx,jcx]
 by_cases h1:a=c<;>by_cases h2:b=d<;>simp [h1,h2,jat]
theorem qtf {a b:Bool}:qrn false false [true] (some (vb a)) (some (vb b))=some (vb (decide (a=b))):=by
 cases a<;>cases b<;>rfl
theorem qnm (ok:Ok h) {m:Nat×Nat} (m1:2<=m.1/\m.1<=10) (m2:2<=m.2/\m.2<=10):WC F3 46 [.agg [si m.1,si m.2]] h (fun v h'=>∃ d,jhd true h' d v=some (vi 0)):=by
 refine jbf (no3 rfl rfl rfl) qt1 rfl ?_
 unfold qnc
 obtain ⟨hA,eA,okA,nA,xA,gA⟩:=jfh ok [si m.1,si m.2] 25
 have a1:((m.1:Int)<2)=False:=by simp;omega
 have a2:(10<(m.1:Int))=False:=by simp;omega
 have b1:((m.2:Int)<2)=False:=by simp;omega
 have b2:(10<(m.2:Int))=False:=by simp;omega
 simp (disch:=first|omega|rfl|apply_rules[jaa,jac,jad]) only [go_sem,eA,xA]
 rw [jam]
 unfold qcy qcx
 simp (disch:=first|omega|rfl|apply_rules[jaa,jac,jad]) only [go_sem,jag,j79,qgn,a1,a2]
 rw [jam]
 simp (disch:=first|omega|rfl|apply_rules[jaa,jac,jad]) only [go_sem,jag,j79,qgo,b1,b2]
 rw [jam]
 simp (disch:=first|omega|rfl|apply_rules[jaa,jac,jad]) only [go_sem]
 exact ⟨1,rfl⟩
theorem qgp (ok:Ok h) (hv:v<f.values.length):WC F3 72 [.agg [jah jas f.values,jah ja3 f.blocks],vi v] h (fun v h'=>∃ d,jhd true h' d v=some (vb true)):=by
 refine jbf (no3 rfl rfl rfl) qrf rfl ?_
 unfold qc4
 obtain ⟨hA,eA,okA,nA,xA,gA⟩:=jfh ok [jah jas f.values,jah ja3 f.blocks] 30
 have a1:(0<=(v:Int))=True:=by simp
 have a2:((v:Int)<(f.values.length:Int))=True:=by simp;omega
 have ll:=jak (enc:=jas) (l:=f.values)
 simp (disch:=first|omega|rfl|apply_rules[jaa,jac,jad]) only [go_sem,eA,xA,a1,a2,ll]
 exact ⟨1,rfl⟩
theorem qnn {l:List Ms.Ins} (hl:l.length<=10000) (hp:∀ x∈l,x.ops.length<=6/\x.spoils.length<=20) {x8 x9 x10 x11 x12 x13 x14 x15:AV} :
 ∀ (d i:Nat) (_:i+d=l.length) {hi:Hp} (_:Ok hi) {x2 x3 x5:AV}
  (hQ:∀ hj x2 x3 x5,Ok hj->hi.next<=hj.next->(∀ k,k<hi.next->hj.get k=hi.get k)->Q (.exit 2) (.mk [x0,x1,x2,x3,.s (jah jdv l),x5,vi l.length,vi l.length,x8,x9,x10,x11,x12,x13,x14,x15,x16,x17] hj)),
  W F3 j1p.loop (.mk [x0,x1,x2,x3,.s (jah jdv l),x5,vi l.length,vi i,x8,x9,x10,x11,x12,x13,x14,x15,x16,x17] hi) Q
 | 0,i,hd,hi,ok,x2,x3,x5,hQ=>by
  obtain rfl:i=l.length:=by omega
  rw [jam]
  unfold j1p
  simp (disch:=first|omega|rfl|apply_rules[jaa,jac,jad]) only [go_sem,f04]
  exact hQ hi _ _ _ ok (f0f _) (fun _ _=>rfl)
 | d+1,i,hd,hi,ok,x2,x3,x5,hQ=>by
  have hlt:(i:Int)<l.length:=by omega
  obtain ⟨x,hget⟩:∃ x,l[i]?=some x:=⟨_,f0b (by omega)⟩
  have hx:=hp x (f0c hget)
  have hix:=jaj (enc:=jdv) (size:=3) hget rfl
  have hs:(i:Int)+1=((i+1:Nat):Int):=by omega
  obtain ⟨hA,eA,okA,nA,xA,gA⟩:=jcl ok [.int .i64 0,.nilSlice,.nilSlice] (jdv x) 46
  have l1:=jak (enc:=jbb) (l:=x.ops)
  have l2:=jak (enc:=jd8) (l:=x.spoils)
  have c1:(6<(x.ops.length:Int))=False:=by simp;omega
  have c2:(20<(x.spoils.length:Int))=False:=by simp;omega
  unfold jdv at xA eA
  rw [jam]
  unfold j1p qcz
  simp (disch:=first|omega|rfl|apply_rules[jaa,jac,jad]) only [go_sem,jag,eq_true hlt,hix,jdv,eA,xA,l1,l2,c1,c2,hs]
  exact qnn hl hp d (i+1) (by omega) okA (fun hj x2 x3 x5 o n g=>hQ hj x2 x3 x5 o (by omega) (fun k hk=>(g k (by omega)).trans (gA k hk)))
theorem jw3 {l:List Blk} {i:Nat} {b:Blk} (h:l[i]?=some b):sm (l.take (i+1))=sm (l.take i)+b.instrs.length:=by
 have hi:i<l.length:=by
  rcases f0h i l.length with h1 | h1
  ·exact h1
  ·rw [f0t h1] at h;cases h
 rw [f0b hi] at h
 obtain rfl:=Option.some.inj h
 rw [List.take_succ_eq_append_getElem hi,jpx]
 simp [sm]
theorem j3r (l:List Blk) (i:Nat):sm (l.take i)<=sm l:=by
 have:sm (l.take i++l.drop i)=sm (l.take i)+sm (l.drop i):=jpx _ _
 rw [List.take_append_drop] at this;omega
theorem qdf {m:Nat×Nat} (k:FcOk m f) :
 ∀ (d i:Nat) (_:i+d=f.blocks.length) {hi:Hp} (_:Ok hi) {x2 x3 x4 x5 x6 x7 x8 x10 x11 x13:AV}
  (hQ:∀ hj x2 x3 x4 x5 x6 x7 x8 x9 x10 x11 x13,Q (.exit 0) (.mk [x0,x1,x2,x3,x4,x5,x6,x7,x8,x9,x10,x11,.s (jah ja3 f.blocks),x13,vi f.blocks.length,vi f.blocks.length,x16,x17] hj)),
  W F3 j1q.loop (.mk [x0,x1,x2,x3,x4,x5,x6,x7,x8,vi (sm (f.blocks.take i)),x10,x11,.s (jah ja3 f.blocks),x13,vi f.blocks.length,vi i,x16,x17] hi) Q
 | 0,i,hd,hi,ok,x2,x3,x4,x5,x6,x7,x8,x10,x11,x13,hQ=>by
  obtain rfl:i=f.blocks.length:=by omega
  rw [jam]
  unfold j1q
  simp (disch:=first|omega|rfl|apply_rules[jaa,jac,jad]) only [go_sem,f04]
  exact hQ hi ..
 | d+1,i,hd,hi,ok,x2,x3,x4,x5,x6,x7,x8,x10,x11,x13,hQ=>by
  have nb:=k.nb
  have hlt:(i:Int)<f.blocks.length:=by omega
  obtain ⟨b,hget⟩:∃ b,f.blocks[i]?=some b:=⟨_,f0b (by omega)⟩
  have hmem:=f0c hget
  have hb:=k.blk b hmem
  have hin:∀ x∈b.instrs,x.ops.length<=6/\x.spoils.length<=20:=fun x hx=>⟨(k.ins b hmem x hx).nops,(k.ins b hmem x hx).nsp⟩
  have hix:=jaj (enc:=ja3) (size:=3) hget rfl
  have hs:(i:Int)+1=((i+1:Nat):Int):=by omega
  have hsm:=jw3 hget
  have hle:=j3r f.blocks (i+1)
  have hall:=k.all
  have hadd:((sm (f.blocks.take i):Nat):Int)+(b.instrs.length:Int)=((sm (f.blocks.take (i+1)):Nat):Int):=by omega
  obtain ⟨hA,eA,okA,nA,xA,gA⟩:=jcl ok [.nilSlice,.nilSlice,.nilSlice] (ja3 b) 42
  have l1:=jak (enc:=jas) (l:=b.params)
  have l2:=jak (enc:=jdv) (l:=b.instrs)
  have l3:=jak (enc:=jgc) (l:=b.edges)
  have c1:(5<(b.params.length:Int))=False:=by simp;omega
  have c2:(40<(b.instrs.length:Int))=False:=by simp;omega
  have c3:(3<(b.edges.length:Int))=False:=by simp;omega
  have c4:(160<((sm (f.blocks.take (i+1)):Nat):Int))=False:=by simp;omega
  unfold ja3 at xA eA
  rw [jam]
  unfold j1q qc2 qc1 qc0
  simp (disch:=first|omega|rfl|apply_rules[jaa,jac,jad]) only [go_sem,jag,eq_true hlt,hix,ja3,eA,xA,l1,l2,l3,c1,c2,c3,hadd,c4]
  refine qnn (by omega) hin b.instrs.length 0 (by omega) okA (fun hj x2 x3 x5 o n g=>?_)
  simp (disch:=first|omega|rfl|apply_rules[jaa,jac,jad]) only [go_sem,jag,hs]
  exact qdf k d (i+1) (by omega) o hQ
theorem qno (ok:Ok h) {m:Nat×Nat} (k:FcOk m f):WC F3 47 [.agg [jah jas f.values,jah ja3 f.blocks]] h (fun v h'=>∃ d,jhd true h' d v=some (vi 0)):=by
 refine jbf (no3 rfl rfl rfl) qt2 rfl ?_
 unfold qnd
 have nb:=k.nb
 have nv:=k.nv
 obtain ⟨hA,eA,okA,nA,xA,gA⟩:=jfh ok [jah jas f.values,jah ja3 f.blocks] 30
 have l1:=jak (enc:=jas) (l:=f.values)
 have l2:=jak (enc:=ja3) (l:=f.blocks)
 have c1:((f.blocks.length:Int)<1)=False:=by simp;omega
 have c2:(16<(f.blocks.length:Int))=False:=by simp;omega
 have c3:(160<(f.values.length:Int))=False:=by simp;omega
 simp (disch:=first|omega|rfl|apply_rules[jaa,jac,jad]) only [go_sem,eA,xA,l1,l2,c1,c2,c3]
 unfold qc3
 simp (disch:=first|omega|rfl|apply_rules[jaa,jac,jad]) only [go_sem,xA,l2]
 refine qdf k f.blocks.length 0 (by omega) okA (fun hj x2 x3 x4 x5 x6 x7 x8 x9 x10 x11 x13=>?_)
 simp (disch:=first|omega|rfl|apply_rules[jaa,jac,jad]) only [go_sem]
 exact ⟨1,rfl⟩
theorem jp1 {vs:List Nat} (h:v<vs.length):vs[v]?=some (cl vs v):=by
 unfold cl;rw [f0d,f0b h];rfl
theorem qgq (ok:Ok h) {x:Ms.Ins} {o u:Ms.Opd} (h1:x.ops[o.n]?=some u) (h2:u.kind=1) (h3:u.late=false) (h4:cl f.values u.value=cl f.values o.value) (h5:u.value<f.values.length) (h6:o.value<f.values.length) :
 WC F3 68 [.agg [jah jas f.values,jah ja3 f.blocks],.agg [si x.op,jah jbb x.ops,jah jd8 x.spoils],.agg [si o.kind,si o.value,.bool o.late,si o.limit,si o.n]] h (fun v h'=>∃ d,jhd true h' d v=some (vi 0)):=by
 obtain ⟨kd,vl,lt,lm,n⟩:=o
 obtain ⟨ukd,uvl,ult,ulm,un⟩:=u
 simp only at h1 h2 h3 h4 h5 h6
 subst h2 h3
 refine jbf (no3 rfl rfl rfl) qnf rfl ?_
 unfold j7d
 obtain ⟨hA,eA,okA,nA,xA,gA⟩:=jfh ok [jah jas f.values,jah ja3 f.blocks] 30
 obtain ⟨hB,eB,okB,nB,xB,gB⟩:=jfh okA [si x.op,jah jbb x.ops,jah jd8 x.spoils] 46
 obtain ⟨hC,eC,okC,nC,xC,gC⟩:=jfh okB [si kd,si vl,.bool lt,si lm,si n] 48
 obtain ⟨hD,eD,okD,nD,xD,gD⟩:=jcl okC [.int .i64 0,.int .i64 0,.bool false,.int .i64 0,.int .i64 0] [si 1,si uvl,.bool false,si ulm,si un] 48
 have yA:=(gC _ (by omega)).trans ((gB _ (by omega)).trans xA)
 have yB:=(gC _ (by omega)).trans xB
 have zA:=(gD _ (by omega)).trans yA
 have zC:=(gD _ (by omega)).trans xC
 have nb:hB.next=h.next+2:=by omega
 have nc:hC.next=h.next+3:=by omega
 rw [nA] at xB yB
 rw [nb] at xC zC
 rw [nc] at eD xD
 have hl:n<x.ops.length:=by
  rcases f0h n x.ops.length with h7 | h7
  ·exact h7
  ·rw [f0t h7] at h1;cases h1
 have l1:=jak (enc:=jbb) (l:=x.ops)
 have ix:=jaj (enc:=jbb) (size:=5) h1 rfl
 have i1:=jaj (enc:=jas) (size:=1) (jp1 h5) rfl
 have i2:=jaj (enc:=jas) (size:=1) (jp1 h6) rfl
 have c1:((n:Int)<0)=False:=by simp
 have c2:((x.ops.length:Int)<=(n:Int))=False:=by simp;omega
 have c3:(((1:Nat):Int)≠1)=False:=by simp
 have c4:((cl f.values uvl:Int)≠(cl f.values vl:Int))=False:=by simp [h4]
 simp (disch:=first|omega|rfl|apply_rules[jaa,jac,jad]) only [go_sem,eA,eB,eC,nA,nb,xA,yA,yB,xC,l1,ix,jbb,c1,c2]
 unfold j1u j1t j1s j1r
 simp (disch:=first|omega|rfl|apply_rules[jaa,jac,jad]) only [go_sem,yA,yB,xC,ix,jbb,eD,nc,xD,zA,zC,i1,i2,jas,c4]
 exact ⟨1,rfl⟩
theorem jna {bm:Nat} {m:Nat×Nat} {l:List (Nat×Nat)} (hl:l.length<=10000) (hr:∀ r∈l,r.1<2/\r.2<g2 m r.1) (hord:∀ (i:Nat) (q r:Nat×Nat),l[i]?=some q->l[i+1]?=some r->q.1<r.1∨(q.1=r.1/\q.2<r.2)) {x2:AV} :
 ∀ (d i:Nat) (_:i+d=l.length) {hi:Hp} (_:Ok hi) (_:bm<hi.next) (_:hi.get bm=some (.arr [si m.1,si m.2] 25)) {x3 x4 x5 x7 x9:AV}
  (hQ:∀ hj x3 x4 x5 x7 x9,Q (.exit 0) (.mk [x0,.s (jah jd8 l),x2,x3,x4,x5,.s (.ptr bm 0),x7,.s (jah jd8 l),x9,vi l.length,vi l.length] hj)),
  W F3 jm6.loop (.mk [x0,.s (jah jd8 l),x2,x3,x4,x5,.s (.ptr bm 0),x7,.s (jah jd8 l),x9,vi l.length,vi i] hi) Q
 | 0,i,hd,hi,ok,hb,xb,x3,x4,x5,x7,x9,hQ=>by
  obtain rfl:i=l.length:=by omega
  rw [jam]
  unfold jm6
  simp (disch:=first|omega|rfl|apply_rules[jaa,jac,jad]) only [go_sem,f04]
  exact hQ hi ..
 | d+1,i,hd,hi,ok,hb,xb,x3,x4,x5,x7,x9,hQ=>by
  have hlt:(i:Int)<l.length:=by omega
  obtain ⟨⟨c,n⟩,hget⟩:∃ x,l[i]?=some x:=⟨_,f0b (by omega)⟩
  have hx:=hr _ (f0c hget)
  have hix:=jaj (enc:=jd8) (size:=2) hget rfl
  have hs:(i:Int)+1=((i+1:Nat):Int):=by omega
  obtain ⟨hA,eA,okA,nA,xA,gA⟩:=jcl ok [.int .i64 0,.int .i64 0] (jd8 (c,n)) 105
  have yb:=(gA _ hb).trans xb
  unfold jd8 at xA eA
  simp only at xA eA hx
  have c1:((c:Int)<0)=False:=by simp
  have c2:(2<=(c:Int))=False:=by simp;omega
  have c3:((n:Int)<0)=False:=by simp
  have hm:(c=0/\n<m.1)∨(c=1/\n<m.2):=by
   have:c=0∨c=1:=by omega
   rcases this with rfl | rfl
   ·exact .inl ⟨rfl,hx.2⟩
   ·exact .inr ⟨rfl,hx.2⟩
  have hrd:∃ k,rdB (hA.get bm) c 1=some [si (k:Nat)]/\n<k:=by
   rw [yb]
   rcases hm with ⟨rfl,h⟩ | ⟨rfl,h⟩
   ·exact ⟨m.1,rfl,h⟩
   ·exact ⟨m.2,rfl,h⟩
  obtain ⟨k,hrd,hk⟩:=hrd
  have hxa:=jcs (n:=2) (size:=1) (b:=bm) (off:=0) (m:=c) (by omega)
  rw [f0i,f3h] at hxa
  have c4:((k:Int)<=(n:Int))=False:=by simp;omega
  rw [jam]
  unfold jm6 j1w j1v
  simp (disch:=first|omega|rfl|apply_rules[jaa,jac,jad]) only [go_sem,jag,eq_true hlt,hix,jd8,eA,xA,c1,c2,c3,hxa,hrd,c4]
  have xA':=xA
  cases i with
  | zero =>
   unfold jue jud
   simp (disch:=first|omega|rfl|apply_rules[jaa,jac,jad]) only [go_sem,jag,hix,jd8,eA,xA,hs,f04]
   exact jna hl hr hord d (0+1) (by omega) okA (by omega) yb hQ
  | succ j =>
   obtain ⟨⟨pc,pn⟩,hp⟩:∃ x,l[j]?=some x:=⟨_,f0b (by omega)⟩
   have hpx:=jaj (enc:=jd8) (size:=2) hp rfl
   have ho:=hord j _ _ hp hget
   simp only at ho
   have p0:(0<((j+1:Nat):Int))=True:=eq_true (by omega)
   have p1:((j+1:Nat):Int) - 1=(j:Int):=by omega
   have q1:((c:Int)<(pc:Int))=False:=by simp;omega
   unfold jue jud
   by_cases e:pc=c
   ·subst e
    have q2:((pc:Int)=(pc:Int))=True:=by simp
    have q3:((n:Int)<=(pn:Int))=False:=by simp;omega
    simp (disch:=first|omega|rfl|apply_rules[jaa,jac,jad]) only [go_sem,jag,hix,hpx,jd8,eA,xA,hs,p0,p1,q1,q2,q3]
    exact jna hl hr hord d (j+1+1) (by omega) okA (by omega) yb hQ
   ·have q2:((pc:Int)=(c:Int))=False:=by simp;omega
    simp (disch:=first|omega|rfl|apply_rules[jaa,jac,jad]) only [go_sem,jag,hix,hpx,jd8,eA,xA,hs,p0,p1,q1,q2]
    exact jna hl hr hord d (j+1+1) (by omega) okA (by omega) yb hQ
theorem qgr (ok:Ok h) {m:Nat×Nat} {l:List (Nat×Nat)} (hl:l.length<=10000) (hr:∀ r∈l,r.1<2/\r.2<g2 m r.1) (hord:∀ (i:Nat) (q r:Nat×Nat),l[i]?=some q->l[i+1]?=some r->q.1<r.1∨(q.1=r.1/\q.2<r.2)) :
 WC F3 69 [.agg [si m.1,si m.2],.s (jah jd8 l)] h (fun v h'=>∃ d,jhd true h' d v=some (vi 0)):=by
 refine jbf (no3 rfl rfl rfl) qng rfl ?_
 unfold j7e
 obtain ⟨hA,eA,okA,nA,xA,gA⟩:=jfh ok [si m.1,si m.2] 25
 have l1:=jak (enc:=jd8) (l:=l)
 simp (disch:=first|omega|rfl|apply_rules[jaa,jac,jad]) only [go_sem,eA,xA,l1]
 refine jna hl hr hord l.length 0 (by omega) okA (by omega) xA (fun hj x3 x4 x5 x7 x9=>?_)
 simp (disch:=first|omega|rfl|apply_rules[jaa,jac,jad]) only [go_sem]
 exact ⟨1,rfl⟩
theorem jw4 (ok:Ok h) {n:Nat} (ha:kd=1) (hb:ukd=1∨ukd=2):WC F3 79 [.agg [si kd,si vl,.bool lt,si lm,si n],.agg [si ukd,si uvl,.bool ult,si ulm,si un]] h (fun v h'=>v=vb (if ukd=1 then decide (vl≠uvl) else (lt || !ult))):=by
 refine jbf (no3 rfl rfl rfl) qc5 rfl ?_
 unfold jzt
 obtain ⟨hA,eA,okA,nA,xA,gA⟩:=jfh ok [si kd,si vl,.bool lt,si lm,si n] 48
 obtain ⟨hB,eB,okB,nB,xB,gB⟩:=jfh okA [si ukd,si uvl,.bool ult,si ulm,si un] 48
 have yA:=(gB _ (by omega)).trans xA
 rw [nA] at xB
 have a1:((kd:Int)=1)=True:=eq_true (by omega)
 have a2:((kd:Int)=2)=False:=eq_false (by omega)
 by_cases e1:ukd=1
 ·have b1:((ukd:Int)=1)=True:=eq_true (by omega)
  simp (disch:=first|omega|rfl|apply_rules[jaa,jac,jad]) only [go_sem,eA,nA,eB,xB,yA,a1,b1]
  rw [if_pos e1]
  by_cases e:vl=uvl
  ·subst e;simp
  ·have:¬ ((vl:Int)=(uvl:Int)):=by omega
   simp [e,this]
 ·have b1:((ukd:Int)=1)=False:=eq_false (by omega)
  rw [if_neg e1]
  cases lt<;>cases ult<;>(simp (disch:=first|omega|rfl|apply_rules[jaa,jac,jad]) only [go_sem,eA,nA,eB,xB,yA,a1,a2,b1];try rfl)
theorem qbh (ok:Ok h) {n:Nat} (ha:kd=1∨kd=2) (hb:ukd=1∨ukd=2):WC F3 79 [.agg [si kd,si vl,.bool lt,si lm,si n],.agg [si ukd,si uvl,.bool ult,si ulm,si un]] h (fun v h'=>∃ b d,jhd true h' d v=some (vb b)):=by
 rcases ha with ha | ha
 ·exact WC.imp (jw4 ok ha hb) (fun v h' e=>by subst e;exact ⟨_,1,rfl⟩)
 ·refine jbf (no3 rfl rfl rfl) qc5 rfl ?_
  unfold jzt
  obtain ⟨hA,eA,okA,nA,xA,gA⟩:=jfh ok [si kd,si vl,.bool lt,si lm,si n] 48
  obtain ⟨hB,eB,okB,nB,xB,gB⟩:=jfh okA [si ukd,si uvl,.bool ult,si ulm,si un] 48
  have yA:=(gB _ (by omega)).trans xA
  rw [nA] at xB
  have a1:((kd:Int)=1)=False:=eq_false (by omega)
  have a2:((kd:Int)=2)=True:=eq_true (by omega)
  rcases hb with hb | hb
  ·have b2:((ukd:Int)=2)=False:=eq_false (by omega)
   simp (disch:=first|omega|rfl|apply_rules[jaa,jac,jad]) only [go_sem,eA,nA,eB,xB,yA,a1,a2,b2]
   refine WC.imp (jw4 okB hb (.inr ha)) (fun v h' e=>?_)
   subst e
   simp (disch:=first|omega|rfl|apply_rules[jaa,jac,jad]) only [go_sem]
   exact ⟨_,1,rfl⟩
  ·have b2:((ukd:Int)=2)=True:=eq_true (by omega)
   simp (disch:=first|omega|rfl|apply_rules[jaa,jac,jad]) only [go_sem,eA,nA,eB,xB,yA,a1,a2,b2]
   exact ⟨_,1,rfl⟩
end Go.Proofs.Ytehhjbfmjdlcjaa.Ev
