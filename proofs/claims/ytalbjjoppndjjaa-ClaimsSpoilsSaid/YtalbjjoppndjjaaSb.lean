/- Code of functions as the interpreter has it prepared, cut at loops. -/
import Derived.Test.YtalbjjoppndjjaaMc11
import Derived.Test.YtalbjjoppndjjaaVd
namespace Go.Proofs.Ytalbjjoppndjjaa.Ev
open Go Go.RowKit
set_option linter.all false
set_option maxRecDepth 100000
def qdn:IC:=.seq (.block 1 (qr [qP (.ival 2 1 false (.g 4) (.g 6)),qT 3] (qr [qM 3,qP (.bin .lt qa (qC 2)),qP (.mv qa),qR 0 false (.mv (.g 3)),qR 1 false (.bin .gt qa (qC 10)),qQ 2 (.pick qc (.c (.s (.bool true))) qa)] (.cond (.g 2) (qr [qQ 1 (.mv (qC 2))] .ret) .skip)))) (.region [qI 6,qT 6])
def qdo:IC:=qr [qQ 5 (.bin .lt (.g 6) (qC 2))] (.seq (qX 5 0) qdn)
def qnh:IC:=qr [qB 7 (.box 30 (.g 0)),qQ 1 (.mv (qC 0))] (.seq (qr [qF 0 7,qB 4 (.load 2 true qa),qQ 6 (.mv (qC 0))] (.block 0 (.loop qdo))) (qr [qQ 1 (.mv (qC 0))] .ret))
theorem qur:T 35=some (.mk qnh 1 7 [(.tmp 1)]):=by kernel_rfl
def qdp:IC:=.seq (.block 3 (qr [qP (.ixs 3 (.g 4) (.g 7)),qK 3,qB 3 (.new 57 [.int .i64 0,.nilSlice,.nilSlice]),qA (.store 3 qa qb)] (qr [qF 1 3,qL,qP (.len qa),qP (.bin .gt qa (qC 6)),qP (.mv qa),qR 0 false (.fld 2 (.g 3)),qS 1 false (.load 1 false qa),qR 2 false (.len qa),qR 3 false (.bin .gt qa (qC 20)),qQ 2 (.pick (.l 4) (.c (.s (.bool true))) qa)] (.cond (.g 2) (qr [qQ 1 (.mv (qC 1))] .ret) .skip)))) (.region [qI 7,qT 7])
def j1h:IC:=qr [qQ 5 (.bin .lt (.g 7) (.g 6))] (.seq (qX 5 2) qdp)
def qdq:IC:=qr [qF 1 11,qB 4 (.load 1 false qa),qQ 6 (.len qa),qQ 7 (.mv (qC 0))] (.block 2 (.loop j1h))
def qdr:IC:=.seq (qr [qM 9,qF 1 11,qL,qP (.len qa),qP (.bin .add qd qa),qT 9] (qr [qM 9,qQ 8 (.bin .gt qa (qC 160))] (.cond (.g 8) (qr [qQ 1 (.mv (qC 1))] .ret) .skip))) qdq
def qds:IC:=.seq (.block 1 (qr [qP (.ixs 3 (.g 12) (.g 15)),qK 3,qB 11 (.new 36 [.nilSlice,.nilSlice,.nilSlice]),qA (.store 3 qa qb)] (.seq (qr [qF 0 11,qL,qP (.len qa),qP (.bin .gt qa (qC 5)),qP (.mv qa),qR 0 false (.fld 1 (.g 11)),qS 1 false (.load 1 false qa),qR 2 false (.len qa),qR 3 false (.bin .gt qa (qC 40)),qP (.pick (.l 4) (.c (.s (.bool true))) qa),qP (.mv qa),qR 0 false (.fld 2 (.g 11)),qS 1 false (.load 1 false qa),qR 2 false (.len qa),qR 3 false (.bin .gt qa (qC 3)),qQ 10 (.pick (.l 4) (.c (.s (.bool true))) qa)] (.cond (.g 10) (qr [qQ 1 (.mv (qC 1))] .ret) .skip)) qdr))) (.region [qI 15,qT 15])
def j1i:IC:=qr [qQ 13 (.bin .lt (.g 15) (.g 14))] (.seq (qX 13 0) qds)
def qdt:IC:=qr [qQ 9 (.mv (qC 0))] (.seq (qr [qF 1 17,qB 12 (.load 1 false qa),qQ 14 (.len qa),qQ 15 (.mv (qC 0))] (.block 0 (.loop j1i))) (qr [qQ 1 (.mv (qC 0))] .ret))
def qni:IC:=qr [qB 17 (.box 26 (.g 0)),qQ 1 (.mv (qC 0))] (.seq (qr [qF 1 17,qL,qP (.len qa),qP (.bin .lt qa (qC 1)),qP (.mv qa),qR 0 false (.fld 1 (.g 17)),qS 1 false (.load 1 false qa),qR 2 false (.len qa),qR 3 false (.bin .gt qa (qC 16)),qP (.pick (.l 4) (.c (.s (.bool true))) qa),qP (.mv qa),qR 0 false (.fld 0 (.g 17)),qS 1 false (.load 1 false qa),qR 2 false (.len qa),qR 3 false (.bin .gt qa (qC 160)),qQ 16 (.pick (.l 4) (.c (.s (.bool true))) qa)] (.cond (.g 16) (qr [qQ 1 (.mv (qC 1))] .ret) .skip)) qdt)
theorem qus:T 36=some (.mk qni 1 17 [(.tmp 1)]):=by kernel_rfl
def qdu:IC:=qr [qB 3 (.box 26 (.g 0)),qQ 2 (.mv (.c (.s (.bool false))))] (qr [qM 1,qP (.bin .ge qa (qC 0)),qP (.mv qa),qR 0 true (.mv (.g 1)),qR 1 true (.fld 0 (.g 3)),qS 2 true (.load 1 false qa),qR 3 true (.len qa),qR 4 true (.bin .lt qd qa),qP (.pick (.l 5) qa (.c (.s (.bool false)))),qT 2] .ret)
theorem qr0:T 59=some (.mk qdu 2 2 [(.tmp 2)]):=by kernel_rfl
def jh4:IC:=.draw [(qF 3 10,.none),(qL,.some []),(qP (.bin .eq qa (qC 4)),.none),(qP (.mv qa),.none),(qR 0 true (.fld 4 (.g 10)),.none),(qS 1 true (.load 1 false qa),.some []),(qR 2 true (.bin .lt qa (qC 0)),.none),(qR 3 true (.mv qa),.none),(qR 0 false (.fld 4 (.g 10)),.none),(qS 1 false (.load 1 false qa),.some []),(qR 2 false (.fld 0 (.g 8)),.none),(qS 3 false (.load 1 false qa),.some [1]),(qR 4 false (.fld 1 (.g 10)),.none),(qS 5 false (.load 1 false qa),.some [1,3]),(qR 6 false (.ixs 1 qc qa),.none),(qS 7 false (.load 1 false qa),.some [5]),(qR 8 false (.fld 0 (.g 6)),.none),(qR 9 false (.ixa 2 1 qa qb),.none),(qS 10 false (.load 1 false qa),.some [8]),(qR 11 false (.bin .ge (.l 9) qa),.none),(qR 16 true (.pick (.l 12) (.c (.s (.bool true))) qa),.none),(qP (.pick (.l 17) qa (.c (.s (.bool false)))),.none),(qT 5,.none)]
def jh5:IC:=.cond (.g 4) (qr [qQ 3 (.mv (qC 4))] .ret) .skip
def jh6:IC:=.cond (.g 9) (qr [qQ 3 (.mv (qC 3))] .ret) (qr [qA (.load 2 true (.g 8)),qF 1 10,qL,qA (.call 59 [qc,qa]),qP (.not qa),qT 7] (.cond (.g 7) (qr [qQ 3 (.mv (qC 2))] .ret) (.seq jh4 (.cond (.g 5) (qr [qQ 3 (.mv (qC 2))] .ret) (.seq (qr [qF 3 10,qL,qP (.bin .le qa (qC 3)),qP (.mv qa),qR 0 true (.fld 4 (.g 10)),qS 1 true (.load 1 false qa),qR 2 true (.bin .ne qa (qC 0)),qP (.pick qd qa (.c (.s (.bool false)))),qT 4] (.cond (.g 4) .skip (.region [qF 3 10,qL,qP (.bin .eq qa (qC 5)),qP (.mv qa),qR 0 true (.fld 0 (.g 10)),qS 1 true (.load 1 false qa),qR 2 true (.bin .ne qa (qC 2)),qR 3 true (.mv qa),qR 0 false (.fld 2 (.g 10)),qS 1 false (.load 1 false qa),qR 2 false (.not qa),qR 7 true (.pick qd (.c (.s (.bool true))) qa),qP (.pick (.l 8) qa (.c (.s (.bool false)))),qT 4]))) jh5)))))
def j70:IC:=qr [qB 8 (.box 26 (.g 0)),qB 6 (.box 30 (.g 1)),qB 10 (.box 59 (.g 2)),qQ 3 (.mv (qC 0))] (.seq (.block 0 (.seq (qr [qF 0 10,qL,qP (.bin .ne qa (qC 1)),qP (.mv qa),qR 0 true (.fld 0 (.g 10)),qS 1 true (.load 1 false qa),qR 2 true (.bin .ne qa (qC 2)),qP (.pick qd qa (.c (.s (.bool false)))),qT 9] (.cond (.g 9) .skip (.region [qF 3 10,qL,qP (.bin .lt qa (qC 1)),qP (.mv qa),qR 0 false (.fld 3 (.g 10)),qS 1 false (.load 1 false qa),qR 2 false (.bin .gt qa (qC 5)),qP (.pick qd (.c (.s (.bool true))) qa),qT 9]))) jh6)) (qr [qQ 3 (.mv (qC 0))] .ret))
theorem qnj:T 54=some (.mk j70 3 8 [(.tmp 3)]):=by kernel_rfl
def j1j:IC:=.draw [(qF 0 5,.none),(qL,.some []),(qF 1 7,.none),(qL,.some [1]),(qP (.ixs 1 qc qa),.none),(qL,.some []),(qF 0 5,.none),(qL,.some [1,3,5]),(qF 1 10,.none),(qL,.some [1,3,5,7]),(qP (.ixs 1 qc qa),.none),(qL,.some [5,7,9]),(qQ 4 (.bin .ne (.l 6) qa),.none)]
def j1k:IC:=qr [qQ 3 (.mv (qC 0))] .ret
def j1l:IC:=.seq (.seq j1j (.cond (.g 4) (qr [qQ 3 (.mv (qC 17))] .ret) .skip)) j1k
def j1m:IC:=qr [qF 1 9,qL,qF 4 10,qL,qP (.ixs 5 qc qa),qK 5,qB 7 (.new 59 [.int .i64 0,.int .i64 0,.bool false,.int .i64 0,.int .i64 0]),qA (.store 5 qa qb)] (.seq (qr [qF 0 7,qL,qP (.bin .ne qa (qC 1)),qP (.mv qa),qR 0 false (.fld 2 (.g 7)),qS 1 false (.load 1 false qa),qQ 6 (.pick qc (.c (.s (.bool true))) qa)] (.cond (.g 6) (qr [qQ 3 (.mv (qC 4))] .ret) .skip)) j1l)
def j71:IC:=qr [qB 5 (.box 26 (.g 0)),qB 9 (.box 57 (.g 1)),qB 10 (.box 59 (.g 2)),qQ 3 (.mv (qC 0))] (.seq (qr [qF 4 10,qL,qP (.bin .lt qa (qC 0)),qP (.mv qa),qR 0 false (.fld 4 (.g 10)),qS 1 false (.load 1 false qa),qR 2 false (.fld 1 (.g 9)),qS 3 false (.load 1 false qa),qR 4 false (.len qa),qR 5 false (.bin .ge qd qa),qQ 8 (.pick (.l 6) (.c (.s (.bool true))) qa)] (.cond (.g 8) (qr [qQ 3 (.mv (qC 6))] .ret) .skip)) j1m)
theorem qnk:T 55=some (.mk j71 3 8 [(.tmp 3)]):=by kernel_rfl
def j1n:IC:=.draw [(qF 0 7,.none),(qL,.some []),(qP (.bin .lt qa (qC 0)),.none),(qP (.mv qa),.none),(qR 0 false (.fld 0 (.g 7)),.none),(qS 1 false (.load 1 false qa),.some []),(qR 2 false (.bin .ge qa (qC 2)),.none),(qP (.pick qd (.c (.s (.bool true))) qa),.none),(qP (.mv qa),.none),(qR 0 false (.fld 1 (.g 7)),.none),(qS 1 false (.load 1 false qa),.some []),(qR 2 false (.bin .lt qa (qC 0)),.none),(qP (.pick qd (.c (.s (.bool true))) qa),.none),(qP (.mv qa),.none),(qR 0 false (.fld 1 (.g 7)),.none),(qS 1 false (.load 1 false qa),.some []),(qR 2 false (.fld 0 (.g 7)),.none),(qS 3 false (.load 1 false qa),.some [1]),(qR 4 false (.fld 0 (.g 6)),.none),(qR 5 false (.ixa 2 1 qa qb),.none),(qS 6 false (.load 1 false qa),.some [4]),(qR 7 false (.bin .ge (.l 5) qa),.none),(qQ 5 (.pick (.l 8) (.c (.s (.bool true))) qa),.none)]
def jub:IC:=.draw [(qM 4,.none),(qP (.bin .gt qa (qC 0)),.none),(qP (.mv qa),.none),(qR 0 true (.mv (.g 1)),.none),(qR 1 true (.mv (.g 4)),.none),(qR 2 true (.bin .sub qa (qC 1)),.none),(qR 3 true (.ixs 2 qc qa),.none),(qR 4 true (.fld 0 qa),.none),(qS 5 true (.load 1 false qa),.some []),(qR 6 true (.fld 0 (.g 7)),.none),(qS 7 true (.load 1 false qa),.some [1]),(qR 8 true (.bin .gt qc qa),.none),(qR 9 true (.mv qa),.none),(qR 0 false (.mv (.g 1)),.none),(qR 1 false (.mv (.g 4)),.none),(qR 2 false (.bin .sub qa (qC 1)),.none),(qR 3 false (.ixs 2 qc qa),.none),(qR 4 false (.fld 0 qa),.none),(qS 5 false (.load 1 false qa),.some []),(qR 6 false (.fld 0 (.g 7)),.none),(qS 7 false (.load 1 false qa),.some [1]),(qR 8 false (.bin .eq qc qa),.none),(qR 9 false (.mv qa),.none),(qR 0 true (.mv (.g 1)),.none),(qR 1 true (.mv (.g 4)),.none),(qR 2 true (.bin .sub qa (qC 1)),.none),(qR 3 true (.ixs 2 qc qa),.none),(qR 4 true (.fld 1 qa),.none),(qS 5 true (.load 1 false qa),.some []),(qR 6 true (.fld 1 (.g 7)),.none),(qS 7 true (.load 1 false qa),.some [1]),(qR 8 true (.bin .ge qc qa),.none),(qR 19 false (.pick (.l 9) qa (.c (.s (.bool false)))),.none),(qR 30 true (.pick (.l 20) (.c (.s (.bool true))) qa),.none),(qQ 3 (.pick (.l 31) qa (.c (.s (.bool false)))),.none)]
def juc:IC:=.seq jub (.cond (.g 3) (qr [qQ 2 (.mv (qC 4))] .ret) .skip)
def j1o:IC:=.seq (.block 1 (qr [qM 11,qP (.ixs 2 (.g 8) (.g 11)),qK 2,qB 7 (.new 48 [.int .i64 0,.int .i64 0]),qQ 4 (.mv qd),qA (.store 2 qb qc)] (.seq (.seq j1n (.cond (.g 5) (qr [qQ 2 (.mv (qC 2))] .ret) .skip)) juc))) (.region [qI 11,qT 11])
def jna:IC:=qr [qQ 9 (.bin .lt (.g 11) (.g 10))] (.seq (qX 9 0) j1o)
def j72:IC:=qr [qB 6 (.box 30 (.g 0)),qQ 2 (.mv (qC 0))] (.seq (qr [qQ 8 (.mv (.g 1)),qQ 10 (.len qa),qQ 11 (.mv (qC 0))] (.block 0 (.loop jna))) (qr [qQ 2 (.mv (qC 0))] .ret))
theorem qnl:T 56=some (.mk j72 2 10 [(.tmp 2)]):=by kernel_rfl
def jzs:IC:=qr [qB 7 (.box 59 (.g 0)),qB 6 (.box 59 (.g 1)),qQ 2 (.mv (.c (.s (.bool false))))] (.seq (.block 0 (qr [qF 0 7,qL,qP (.bin .eq qa (qC 1)),qP (.mv qa),qR 0 true (.fld 0 (.g 6)),qS 1 true (.load 1 false qa),qR 2 true (.bin .eq qa (qC 1)),qP (.pick qd qa (.c (.s (.bool false)))),qT 5] (.cond (.g 5) (qr [qF 1 7,qL,qF 1 6,qL,qP (.bin .ne qc qa),qT 2] .ret) (qr [qF 0 7,qL,qP (.bin .eq qa (qC 2)),qP (.mv qa),qR 0 true (.fld 0 (.g 6)),qS 1 true (.load 1 false qa),qR 2 true (.bin .eq qa (qC 2)),qP (.pick qd qa (.c (.s (.bool false)))),qT 4] (.cond (.g 4) (qr [qQ 2 (.mv (.c (.s (.bool true))))] .ret) (qr [qF 0 7,qL,qP (.bin .eq qa (qC 2)),qT 3] (.cond (.g 3) (qr [qA (.load 5 true (.g 6)),qA (.load 5 true (.g 7)),qA (.call 77 [qb,qa]),qT 2] .ret) .skip))))))) (qr [qF 2 7,qL,qP (.mv qa),qR 0 false (.fld 2 (.g 6)),qS 1 false (.load 1 false qa),qR 2 false (.not qa),qP (.pick qd (.c (.s (.bool true))) qa),qT 2] .ret))
theorem qdv:T 77=some (.mk jzs 2 6 [(.tmp 2)]):=by kernel_rfl
def j1p:IC:=.draw [(qF 0 4,.none),(qL,.some []),(qF 1 9,.none),(qL,.some [1]),(qP (.ixs 1 qc qa),.none),(qL,.some []),(qF 4 9,.none),(qL,.some [1,3,5]),(qP (.build [.int .i64 0,.int .i64 0] [(0,(1,qc)),(1,(1,qa))]),.none),(qA (.store 2 (.g 5) qa),.none),(qQ 3 (.mv (.c (.s (.bool true)))),.none)]
def j1q:IC:=.seq j1p .ret
def jud:IC:=.seq (qr [qF 3 9,qL,qQ 6 (.bin .ne qa (qC 4))] (.cond (.g 6) (qr [qP (.build [.int .i64 0,.int .i64 0] []),qA (.store 2 (.g 5) qa),qQ 3 (.mv (.c (.s (.bool false))))] .ret) .skip)) j1q
def j73:IC:=qr [qB 4 (.box 26 (.g 0)),qB 7 (.box 57 (.g 1)),qB 9 (.box 59 (.g 2)),qB 5 (.new 48 [.int .i64 0,.int .i64 0]),qQ 3 (.mv (.c (.s (.bool false))))] (.seq (qr [qF 3 9,qL,qQ 8 (.bin .eq qa (qC 5))] (.cond (.g 8) (.region [qF 1 7,qL,qF 4 9,qL,qP (.ixs 5 qc qa),qK 5,qA (.store 5 (.g 9) qa)]) .skip)) jud)
theorem qnm:T 75=some (.mk j73 3 7 [(.cell 5 2 true),(.tmp 3)]):=by kernel_rfl
def jgv:IC:=qr [qF 3 19,qL,qP (.bin .eq qa (qC 5)),qP (.mv qa),qR 0 true (.fld 4 (.g 19)),qS 1 true (.load 1 false qa),qR 2 true (.mv (.g 7)),qR 3 true (.bin .eq qb qa),qP (.pick (.l 4) qa (.c (.s (.bool false)))),qP (.mv qa),qR 0 false (.fld 3 (.g 9)),qS 1 false (.load 1 false qa),qR 2 false (.bin .eq qa (qC 5)),qR 3 false (.mv qa),qR 0 true (.fld 4 (.g 9)),qS 1 true (.load 1 false qa),qR 2 true (.mv (.g 14)),qR 3 true (.bin .eq qb qa),qR 8 false (.pick (.l 4) qa (.c (.s (.bool false)))),qP (.pick (.l 9) (.c (.s (.bool true))) qa),qT 4] (qr [qM 18,qP (.mv qa),qR 0 true (.mv (.g 6)),qP (.pick qb qa (.c (.s (.bool false)))),qP (.mv qa),qS 0 true (.load 2 true (.g 5)),qS 1 true (.load 2 true (.g 17)),qR 2 true (.eqv false true [false,false] qb qa),qP (.pick qd qa (.c (.s (.bool false)))),qP (.mv qa),qS 0 true (.load 5 true (.g 19)),qS 1 true (.load 5 true (.g 9)),qS 2 true (.call 77 [qb,qa]),qP (.pick qd qa (.c (.s (.bool false)))),qP (.mv qa),qR 0 true (.mv (.g 4)),qR 1 true (.not qa),qQ 3 (.pick qc qa (.c (.s (.bool false))))] (.cond (.g 3) (qr [qQ 2 (.mv (.c (.s (.bool true))))] .ret) .skip))
def j74:IC:=.seq (.block 3 (qr [qM 13,qP (.ixs 5 (.g 10) (.g 13)),qK 5,qB 9 (.new 59 [.int .i64 0,.int .i64 0,.bool false,.int .i64 0,.int .i64 0]),qQ 7 (.mv qd),qA (.store 5 qb qc)] (qr [qA (.load 2 true (.g 20)),qA (.load 3 true (.g 25)),qA (.load 5 true (.g 9)),qA (.call 75 [qc,qb,qa]),qP (.mv qa),qP (.ext 0 qa),qP (.ext 1 qb),qB 5 (.new 48 [.int .i64 0,.int .i64 0]),qA (.store 2 qa qc),qQ 6 (.mv qc)] (.seq (qr [qF 3 19,qL,qP (.bin .eq qa (qC 5)),qP (.mv qa),qR 0 true (.fld 3 (.g 9)),qS 1 true (.load 1 false qa),qR 2 true (.bin .eq qa (qC 5)),qP (.pick qd qa (.c (.s (.bool false)))),qP (.mv qa),qR 0 true (.fld 4 (.g 19)),qS 1 true (.load 1 false qa),qR 2 true (.fld 4 (.g 9)),qS 3 true (.load 1 false qa),qR 4 true (.bin .eq qc qa),qQ 8 (.pick (.l 5) qa (.c (.s (.bool false))))] (.cond (.g 8) (qr [qQ 2 (.mv (.c (.s (.bool true))))] .ret) .skip)) jgv)))) (.region [qI 13,qT 13])
def jp2:IC:=qr [qQ 11 (.bin .lt (.g 13) (.g 12))] (.seq (qX 11 2) j74)
def jzt:IC:=qr [qF 1 25,qL,qM 14,qQ 10 (.slice 5 qb .none (.some qa)),qQ 12 (.len qa),qQ 13 (.mv (qC 0))] (.block 2 (.loop jp2))
def j75:IC:=.seq (qr [qM 18,qP (.mv qa),qR 0 true (.fld 0 (.g 19)),qS 1 true (.load 1 false qa),qR 2 true (.bin .eq qa (qC 2)),qP (.pick qd qa (.c (.s (.bool false)))),qP (.mv qa),qR 0 true (.fld 2 (.g 19)),qS 1 true (.load 1 false qa),qR 2 true (.not qa),qP (.pick qd qa (.c (.s (.bool false)))),qP (.mv qa),qR 0 true (.fld 2 (.g 25)),qS 1 true (.load 1 false qa),qS 2 true (.load 2 true (.g 17)),qS 3 true (.call 76 [qb,qa]),qQ 15 (.pick (.l 4) qa (.c (.s (.bool false))))] (.cond (.g 15) (qr [qQ 2 (.mv (.c (.s (.bool true))))] .ret) .skip)) jzt
def j76:IC:=.seq (.block 1 (qr [qM 24,qP (.ixs 5 (.g 21) (.g 24)),qK 5,qB 19 (.new 59 [.int .i64 0,.int .i64 0,.bool false,.int .i64 0,.int .i64 0]),qQ 14 (.mv qd),qA (.store 5 qb qc)] (qr [qA (.load 2 true (.g 20)),qA (.load 3 true (.g 25)),qA (.load 5 true (.g 19)),qA (.call 75 [qc,qb,qa]),qP (.mv qa),qP (.ext 0 qa),qP (.ext 1 qb),qB 17 (.new 48 [.int .i64 0,.int .i64 0]),qA (.store 2 qa qc),qQ 18 (.mv qc)] (.seq (qr [qM 18,qP (.mv qa),qR 0 true (.fld 2 (.g 19)),qS 1 true (.load 1 false qa),qP (.pick qc qa (.c (.s (.bool false)))),qP (.mv qa),qR 0 true (.fld 2 (.g 25)),qS 1 true (.load 1 false qa),qS 2 true (.load 2 true (.g 17)),qS 3 true (.call 76 [qb,qa]),qQ 16 (.pick (.l 4) qa (.c (.s (.bool false))))] (.cond (.g 16) (qr [qQ 2 (.mv (.c (.s (.bool true))))] .ret) .skip)) j75)))) (.region [qI 24,qT 24])
def jp3:IC:=qr [qQ 22 (.bin .lt (.g 24) (.g 23))] (.seq (qX 22 0) j76)
def qdw:IC:=qr [qB 20 (.box 26 (.g 0)),qB 25 (.box 57 (.g 1)),qQ 2 (.mv (.c (.s (.bool false))))] (.seq (qr [qF 1 25,qB 21 (.load 1 false qa),qQ 23 (.len qa),qQ 24 (.mv (qC 0))] (.block 0 (.loop jp3))) (qr [qQ 2 (.mv (.c (.s (.bool false))))] .ret))
theorem qr1:T 57=some (.mk qdw 2 24 [(.tmp 2)]):=by kernel_rfl
def qdx:IC:=.seq (.block 1 (qr [qP (.ixs 2 (.g 16) (.g 19)),qK 2,qB 15 (.new 48 [.int .i64 0,.int .i64 0]),qA (.store 2 qa qb)] (qr [qF 0 15,qL,qM 3,qQ 14 (.bin .eq qb qa)] (.cond (.g 14) (.region [qM 13,qP (.bin .add qa (qC 1)),qT 13]) .skip)))) (.region [qI 19,qT 19])
def j1r:IC:=qr [qQ 17 (.bin .lt (.g 19) (.g 18))] (.seq (qX 17 0) qdx)
def qdy:IC:=.seq (.block 3 (qr [qP (.ixs 5 (.g 9) (.g 12)),qK 5,qB 7 (.new 59 [.int .i64 0,.int .i64 0,.bool false,.int .i64 0,.int .i64 0]),qA (.store 5 qa qb)] (qr [qF 0 8,qL,qF 1 7,qL,qP (.ixs 1 qc qa),qL,qM 3,qP (.bin .eq qb qa),qP (.mv qa),qR 0 true (.fld 3 (.g 7)),qS 1 true (.load 1 false qa),qR 2 true (.bin .ne qa (qC 1)),qP (.pick qd qa (.c (.s (.bool false)))),qP (.mv qa),qR 0 true (.fld 3 (.g 7)),qS 1 true (.load 1 false qa),qR 2 true (.bin .ne qa (qC 3)),qQ 6 (.pick qd qa (.c (.s (.bool false))))] (.cond (.g 6) (.region [qM 13,qP (.bin .add qa (qC 1)),qT 13]) .skip)))) (.region [qI 12,qT 12])
def jw1:IC:=qr [qQ 10 (.bin .lt (.g 12) (.g 11))] (.seq (qX 10 2) qdy)
def qnn:IC:=qr [qB 8 (.box 26 (.g 0)),qB 5 (.box 30 (.g 1)),qB 20 (.box 57 (.g 2)),qQ 4 (.mv (.c (.s (.bool false))))] (qr [qQ 13 (.mv (qC 0))] (.seq (qr [qF 2 20,qB 16 (.load 1 false qa),qQ 18 (.len qa),qQ 19 (.mv (qC 0))] (.block 0 (.loop j1r))) (.seq (qr [qF 1 20,qB 9 (.load 1 false qa),qQ 11 (.len qa),qQ 12 (.mv (qC 0))] (.block 2 (.loop jw1))) (qr [qM 13,qM 3,qF 0 5,qP (.ixa 2 1 qa qb),qL,qP (.bin .lt (.l 4) qa),qT 4] .ret))))
theorem qut:T 58=some (.mk qnn 4 17 [(.tmp 4)]):=by kernel_rfl
def j77:IC:=.seq (.block 1 (qr [qP (.ixs 5 (.g 24) (.g 27)),qK 5,qB 21 (.new 59 [.int .i64 0,.int .i64 0,.bool false,.int .i64 0,.int .i64 0]),qA (.store 5 qa qb)] (qr [qA (.load 2 true (.g 23)),qA (.load 2 true (.g 22)),qA (.load 5 true (.g 21)),qA (.call 54 [qc,qb,qa]),qT 20] (qr [qM 20,qQ 19 (.bin .ne qa (qC 0))] (.cond (.g 19) (qr [qM 20,qT 3] .ret) .skip))))) (.region [qI 27,qT 27])
def jue:IC:=qr [qQ 25 (.bin .lt (.g 27) (.g 26))] (.seq (qX 25 0) j77)
def j78:IC:=qr [qA (.load 2 true (.g 23)),qA (.load 3 true (.g 29)),qA (.load 5 true (.g 14)),qA (.call 55 [qc,qb,qa]),qT 12] (qr [qM 12,qQ 11 (.bin .ne qa (qC 0))] (.cond (.g 11) (qr [qM 12,qT 3] .ret) .skip))
def j79:IC:=.seq (.block 3 (qr [qP (.ixs 5 (.g 15) (.g 18)),qK 5,qB 14 (.new 59 [.int .i64 0,.int .i64 0,.bool false,.int .i64 0,.int .i64 0]),qA (.store 5 qa qb)] (.seq (qr [qF 3 14,qL,qQ 13 (.bin .ne qa (qC 5))] (.cond (.g 13) (.exit 3) .skip)) j78))) (.region [qI 18,qT 18])
def jp4:IC:=qr [qQ 16 (.bin .lt (.g 18) (.g 17))] (.seq (qX 16 2) j79)
def j8a:IC:=.seq (.block 5 (qr [qM 7,qT 5] (qr [qA (.load 2 true (.g 23)),qA (.load 2 true (.g 22)),qA (.load 3 true (.g 29)),qM 5,qA (.call 58 [qd,qc,qb,qa]),qQ 4 (.not qa)] (.cond (.g 4) (qr [qQ 3 (.mv (qC 8))] .ret) .skip)))) (.region [qI 7,qT 7])
def j8b:IC:=qr [qQ 6 (.bin .lt (.g 7) (qC 2))] (.seq (qX 6 4) j8a)
def j8c:IC:=.seq (qr [qQ 7 (.mv (qC 0))] (.block 4 (.loop j8b))) (qr [qQ 3 (.mv (qC 0))] .ret)
def j8d:IC:=.seq (qr [qA (.load 2 true (.g 23)),qA (.load 3 true (.g 29)),qB 8 (.call 57 [qb,qa])] (.cond (.g 8) (qr [qQ 3 (.mv (qC 12))] .ret) .skip)) j8c
def j8e:IC:=.seq (qr [qF 1 29,qB 24 (.load 1 false qa),qQ 26 (.len qa),qQ 27 (.mv (qC 0))] (.block 0 (.loop jue))) (.seq (qr [qF 1 29,qB 15 (.load 1 false qa),qQ 17 (.len qa),qQ 18 (.mv (qC 0))] (.block 2 (.loop jp4))) (.seq (qr [qA (.load 2 true (.g 22)),qF 2 29,qL,qA (.call 56 [qc,qa]),qT 10] (qr [qM 10,qQ 9 (.bin .ne qa (qC 0))] (.cond (.g 9) (qr [qM 10,qT 3] .ret) .skip))) j8d))
def qdz:IC:=qr [qB 23 (.box 26 (.g 0)),qB 22 (.box 30 (.g 1)),qB 29 (.box 57 (.g 2)),qQ 3 (.mv (qC 0))] (.seq (qr [qF 0 29,qL,qP (.bin .lt qa (qC 0)),qP (.mv qa),qR 0 false (.fld 0 (.g 29)),qS 1 false (.load 1 false qa),qR 2 false (.bin .gt qa (qC 255)),qQ 28 (.pick qd (.c (.s (.bool true))) qa)] (.cond (.g 28) (qr [qQ 3 (.mv (qC 2))] .ret) .skip)) j8e)
theorem qr2:T 37=some (.mk qdz 3 27 [(.tmp 3)]):=by kernel_rfl
def j1s:IC:=.draw [(qA (.load 2 true (.g 14)),.some []),(qM 12,.none),(qM 4,.none),(qP (.ixs 1 qb qa),.none),(qL,.some [3]),(qA (.call 59 [.l 4,qa]),.some []),(qP (.not qa),.none),(qP (.mv qa),.none),(qR 0 false (.fld 0 (.g 14)),.none),(qS 1 false (.load 1 false qa),.some []),(qR 2 false (.mv (.g 12)),.none),(qR 3 false (.mv (.g 4)),.none),(qR 4 false (.ixs 1 qb qa),.none),(qS 5 false (.load 1 false qa),.some [3]),(qR 6 false (.ixs 1 (.l 4) qa),.none),(qS 7 false (.load 1 false qa),.some []),(qR 8 false (.fld 0 (.g 14)),.none),(qS 9 false (.load 1 false qa),.some [1,3,7]),(qR 10 false (.mv (.g 6)),.none),(qR 11 false (.ixs 1 qb qa),.none),(qS 12 false (.load 1 false qa),.some [4,6,10]),(qR 13 false (.bin .ne (.l 5) qa),.none),(qQ 3 (.pick (.l 14) (.c (.s (.bool true))) qa),.none)]
def j1t:IC:=.seq j1s (.cond (.g 3) (qr [qQ 2 (.mv (qC 17))] .ret) .skip)
def j1u:IC:=.seq (.block 1 (qr [qM 10,qP (.ixs 1 (.g 7) (.g 10)),qL,qQ 4 (.mv qc),qQ 6 (.mv qb)] (.seq (qr [qA (.load 2 true (.g 14)),qM 6,qA (.call 59 [qb,qa]),qQ 5 (.not qa)] (.cond (.g 5) (qr [qQ 2 (.mv (qC 2))] .ret) .skip)) j1t))) (.region [qI 10,qT 10])
def jnb:IC:=qr [qQ 8 (.bin .lt (.g 10) (.g 9))] (.seq (qX 8 0) j1u)
def j1v:IC:=.seq (qr [qF 1 15,qB 7 (.load 1 false qa),qQ 9 (.len qa),qQ 10 (.mv (qC 0))] (.block 0 (.loop jnb))) (qr [qQ 2 (.mv (qC 0))] .ret)
def j1w:IC:=qr [qF 1 14,qL,qF 0 15,qL,qP (.ixs 3 qc qa),qG 0,qL,qT 12] (.seq (qr [qF 1 15,qL,qP (.len qa),qM 12,qP (.len qa),qQ 11 (.bin .ne qc qa)] (.cond (.g 11) (qr [qQ 2 (.mv (qC 4))] .ret) .skip)) j1v)
def j8f:IC:=qr [qB 14 (.box 26 (.g 0)),qB 15 (.box 72 (.g 1)),qQ 2 (.mv (qC 0))] (.seq (qr [qF 0 15,qL,qP (.bin .lt qa (qC 1)),qP (.mv qa),qR 0 false (.fld 0 (.g 15)),qS 1 false (.load 1 false qa),qR 2 false (.fld 1 (.g 14)),qS 3 false (.load 1 false qa),qR 4 false (.len qa),qR 5 false (.bin .ge qd qa),qQ 13 (.pick (.l 6) (.c (.s (.bool true))) qa)] (.cond (.g 13) (qr [qQ 2 (.mv (qC 6))] .ret) .skip)) j1w)
theorem qno:T 38=some (.mk j8f 2 14 [(.tmp 2)]):=by kernel_rfl
def j8g:IC:=.seq (.block 3 (qr [qP (.ixs 1 (.g 20) (.g 23)),qL,qT 18] (qr [qM 19,qM 18,qA (.callv qb [qa]),qT 17] (qr [qM 17,qQ 16 (.bin .ne qa (qC 0))] (.cond (.g 16) (qr [qM 17,qT 1] .ret) .skip))))) (.region [qI 23,qT 23])
def juf:IC:=qr [qQ 21 (.bin .lt (.g 23) (.g 22))] (.seq (qX 21 2) j8g)
def j8h:IC:=qr [qM 19,qF 1 6,qL,qA (.callv qc [qa]),qT 4] (qr [qM 4,qQ 3 (.bin .ne qa (qC 0))] (.cond (.g 3) (qr [qM 4,qT 1] .ret) .skip))
def j8i:IC:=.seq (.block 7 (qr [qP (.ixs 5 (.g 7) (.g 10)),qK 5,qB 6 (.new 59 [.int .i64 0,.int .i64 0,.bool false,.int .i64 0,.int .i64 0]),qA (.store 5 qa qb)] (.seq (qr [qF 0 6,qL,qQ 5 (.bin .ne qa (qC 2))] (.cond (.g 5) (.exit 7) .skip)) j8h))) (.region [qI 10,qT 10])
def jug:IC:=qr [qQ 8 (.bin .lt (.g 10) (.g 9))] (.seq (qX 8 6) j8i)
def j8j:IC:=.seq (.block 5 (qr [qP (.ixs 3 (.g 12) (.g 15)),qK 3,qB 11 (.new 57 [.int .i64 0,.nilSlice,.nilSlice]),qA (.store 3 qa qb)] (qr [qF 1 11,qB 7 (.load 1 false qa),qQ 9 (.len qa),qQ 10 (.mv (qC 0))] (.block 6 (.loop jug))))) (.region [qI 15,qT 15])
def juh:IC:=qr [qQ 13 (.bin .lt (.g 15) (.g 14))] (.seq (qX 13 4) j8j)
def j8k:IC:=.seq (.block 1 (qr [qP (.ixs 3 (.g 25) (.g 28)),qK 3,qB 24 (.new 36 [.nilSlice,.nilSlice,.nilSlice]),qA (.store 3 qa qb)] (.seq (qr [qF 0 24,qB 20 (.load 1 false qa),qQ 22 (.len qa),qQ 23 (.mv (qC 0))] (.block 2 (.loop juf))) (qr [qF 1 24,qB 12 (.load 1 false qa),qQ 14 (.len qa),qQ 15 (.mv (qC 0))] (.block 4 (.loop juh)))))) (.region [qI 28,qT 28])
def jui:IC:=qr [qQ 26 (.bin .lt (.g 28) (.g 27))] (.seq (qX 26 0) j8k)
def j8l:IC:=qr [qQ 1 (.mv (qC 0))] .ret
def qd0:IC:=qr [qB 30 (.box 26 (.g 0)),qQ 1 (.mv (qC 0))] (qr [qF 0 30,qL,qP (.len qa),qA (.mkslice 4 1 1 [.bool false] qa qa),qB 29 (.new 90 [.nilSlice]),qA (.store 1 qa qb)] (qr [qP (.mkfun 60 [.g 30,.g 29]),qT 19] (.seq (qr [qF 1 30,qB 25 (.load 1 false qa),qQ 27 (.len qa),qQ 28 (.mv (qC 0))] (.block 0 (.loop jui))) (.seq (qr [qA (.load 1 false (.g 29)),qB 2 (.call 61 [qa,.c (.s (.bool false))])] (.cond (.g 2) (qr [qQ 1 (.mv (qC 6))] .ret) .skip)) j8l))))
theorem qr3:T 39=some (.mk qd0 1 30 [(.tmp 1)]):=by kernel_rfl
def j8m:IC:=qr [qA (.load 1 false (.g 2)),qM 0,qP (.ixs 1 qb qa),qA (.store 1 qa (.c (.s (.bool true))))] (qr [qQ 3 (.mv (qC 0))] .ret)
def j8n:IC:=.seq (qr [qA (.load 1 false (.g 2)),qM 0,qP (.ixs 1 qb qa),qB 4 (.load 1 false qa)] (.cond (.g 4) (qr [qQ 3 (.mv (qC 7))] .ret) .skip)) j8m
def qd1:IC:=qr [qQ 3 (.mv (qC 0))] (.seq (qr [qA (.load 2 true (.g 1)),qM 0,qA (.call 59 [qb,qa]),qQ 5 (.not qa)] (.cond (.g 5) (qr [qQ 3 (.mv (qC 2))] .ret) .skip)) j8n)
theorem qr4:T 60=some (.mk qd1 3 3 [(.tmp 3)]):=by kernel_rfl
def j8o:IC:=.seq (.block 1 (qr [qP (.ixs 1 (.g 26) (.g 29)),qL,qT 25] (qr [qM 25,qP (.bin .lt qa (qC 0)),qP (.mv qa),qR 0 false (.mv (.g 25)),qR 1 false (.bin .ge qa (qC 2)),qQ 24 (.pick qc (.c (.s (.bool true))) qa)] (.cond (.g 24) (qr [qQ 2 (.mv (qC 17))] .ret) .skip)))) (.region [qI 29,qT 29])
def juj:IC:=qr [qQ 27 (.bin .lt (.g 29) (.g 28))] (.seq (qX 27 0) j8o)
def j8p:IC:=.seq (.block 5 (qr [qP (.ixs 3 (.g 14) (.g 17)),qK 3,qB 13 (.new 57 [.int .i64 0,.nilSlice,.nilSlice]),qA (.store 3 qa qb)] (qr [qA (.load 2 true (.g 32)),qA (.load 2 true (.g 35)),qA (.load 3 true (.g 13)),qA (.call 37 [qc,qb,qa]),qT 12] (qr [qM 12,qQ 11 (.bin .ne qa (qC 0))] (.cond (.g 11) (qr [qM 12,qT 2] .ret) .skip))))) (.region [qI 17,qT 17])
def juk:IC:=qr [qQ 15 (.bin .lt (.g 17) (.g 16))] (.seq (qX 15 4) j8p)
def j8q:IC:=.seq (.block 7 (qr [qP (.ixs 2 (.g 6) (.g 9)),qK 2,qB 5 (.new 72 [.int .i64 0,.nilSlice]),qA (.store 2 qa qb)] (qr [qA (.load 2 true (.g 32)),qA (.load 2 true (.g 5)),qA (.call 38 [qb,qa]),qT 4] (qr [qM 4,qQ 3 (.bin .ne qa (qC 0))] (.cond (.g 3) (qr [qM 4,qT 2] .ret) .skip))))) (.region [qI 9,qT 9])
def jul:IC:=qr [qQ 7 (.bin .lt (.g 9) (.g 8))] (.seq (qX 7 6) j8q)
def jzu:IC:=qr [qF 2 18,qB 6 (.load 1 false qa),qQ 8 (.len qa),qQ 9 (.mv (qC 0))] (.block 6 (.loop jul))
def j8r:IC:=.seq (.block 3 (qr [qP (.ixs 3 (.g 19) (.g 22)),qK 3,qB 18 (.new 36 [.nilSlice,.nilSlice,.nilSlice]),qA (.store 3 qa qb)] (.seq (qr [qF 1 18,qB 14 (.load 1 false qa),qQ 16 (.len qa),qQ 17 (.mv (qC 0))] (.block 4 (.loop juk))) (.seq (qr [qF 2 18,qL,qP (.len qa),qP (.bin .gt qa (qC 1)),qP (.mv qa),qR 0 true (.fld 1 (.g 18)),qS 1 true (.load 1 false qa),qR 2 true (.len qa),qR 3 true (.bin .eq qa (qC 0)),qQ 10 (.pick (.l 4) qa (.c (.s (.bool false))))] (.cond (.g 10) (qr [qQ 2 (.mv (qC 4))] .ret) .skip)) jzu)))) (.region [qI 22,qT 22])
def jum:IC:=qr [qQ 20 (.bin .lt (.g 22) (.g 21))] (.seq (qX 20 2) j8r)
def j8s:IC:=.seq (qr [qF 1 32,qB 19 (.load 1 false qa),qQ 21 (.len qa),qQ 22 (.mv (qC 0))] (.block 2 (.loop jum))) (qr [qA (.load 2 true (.g 32)),qA (.call 39 [qa]),qT 2] .ret)
def j8t:IC:=.seq (qr [qF 0 32,qB 26 (.load 1 false qa),qQ 28 (.len qa),qQ 29 (.mv (qC 0))] (.block 0 (.loop juj))) (.seq (qr [qF 1 32,qL,qP (.ixs 3 qa (qC 0)),qG 0,qL,qP (.len qa),qQ 23 (.bin .gt qa (qC 0))] (.cond (.g 23) (qr [qQ 2 (.mv (qC 4))] .ret) .skip)) j8s)
def j8u:IC:=.seq (qr [qA (.load 2 true (.g 32)),qA (.call 36 [qa]),qT 31] (qr [qM 31,qQ 30 (.bin .ne qa (qC 0))] (.cond (.g 30) (qr [qM 31,qT 2] .ret) .skip))) j8t
def qd2:IC:=qr [qB 32 (.box 26 (.g 0)),qB 35 (.box 30 (.g 1)),qQ 2 (.mv (qC 0))] (.seq (qr [qA (.load 2 true (.g 35)),qA (.call 35 [qa]),qT 34] (qr [qM 34,qQ 33 (.bin .ne qa (qC 0))] (.cond (.g 33) (qr [qM 34,qT 2] .ret) .skip))) j8u)
theorem qr5:T 20=some (.mk qd2 2 34 [(.tmp 2)]):=by kernel_rfl
def qd3:IC:=qr [qB 3 (.box 48 (.g 1)),qQ 2 (.mv (.c (.s (.bool false))))] (qr [qM 0,qA (.load 2 true (.g 3)),qA (.call 86 [qb,qa]),qP (.bin .ge qa (qC 0)),qT 2] .ret)
theorem qr6:T 76=some (.mk qd3 2 2 [(.tmp 2)]):=by kernel_rfl
def j1x:IC:=.draw [(qA (.load 2 true (.g 5)),.some []),(qM 0,.none),(qM 4,.none),(qP (.ixs 2 qb qa),.none),(qK 2,.some [3]),(qQ 3 (.eqv false true [false,false] (.l 4) qa),.none)]
def j1y:IC:=.seq (.block 1 (qr [qM 8,qT 4] (.seq j1x (.cond (.g 3) (qr [qM 4,qT 2] .ret) .skip)))) (.region [qI 8,qT 8])
def jnc:IC:=qr [qQ 6 (.bin .lt (.g 8) (.g 7))] (.seq (qX 6 0) j1y)
def j8v:IC:=qr [qB 5 (.box 48 (.g 1)),qQ 2 (.mv (qC 0))] (.seq (qr [qM 0,qQ 7 (.len qa),qQ 8 (.mv (qC 0))] (.block 0 (.loop jnc))) (qr [qQ 2 (.mv (qC (-1)))] .ret))
theorem qnp:T 86=some (.mk j8v 2 7 [(.tmp 2)]):=by kernel_rfl
def qd4:IC:=qr [qQ 2 (.mv (.c (.s (.bool false))))] (qr [qM 0,qM 1,qA (.call 78 [qb,qa]),qP (.bin .ge qa (qC 0)),qT 2] .ret)
theorem qr7:T 61=some (.mk qd4 2 1 [(.tmp 2)]):=by kernel_rfl
def j1z:IC:=.seq (.block 1 (qr [qM 7,qT 4] (qr [qM 1,qM 0,qM 4,qP (.ixs 1 qb qa),qL,qQ 3 (.eqv false false [true] (.l 4) qa)] (.cond (.g 3) (qr [qM 4,qT 2] .ret) .skip)))) (.region [qI 7,qT 7])
def jnd:IC:=qr [qQ 5 (.bin .lt (.g 7) (.g 6))] (.seq (qX 5 0) j1z)
def j8w:IC:=qr [qQ 2 (.mv (qC 0))] (.seq (qr [qM 0,qQ 6 (.len qa),qQ 7 (.mv (qC 0))] (.block 0 (.loop jnd))) (qr [qQ 2 (.mv (qC (-1)))] .ret))
theorem qnq:T 78=some (.mk j8w 2 6 [(.tmp 2)]):=by kernel_rfl
open Go Go.RowKit Go.Proofs.Ytalbjjoppndjjaa.Ms
variable {x0 x1 x16 x17:AV} {lt agg ult:Bool} {Q:Ex->St->Prop} {f:Fc} {h:Hp} {fr st:List AV} {v kd lm un vl ukd ulm uvl:Nat} {a:SV}
attribute [local go_sem] Int.reduceToNat reduceCtorEq Nat.reduceAdd Nat.reduceMul Nat.reduceEqDiff Int.reduceEq Int.reduceLT Int.reduceLE Int.reduceNeg Int.reduceAdd Int.reduceSub Int.reduceMul Int.reduceNe
attribute [local go_sem ↓] reduceIte
set_option maxHeartbeats 2000000
theorem jei (ok:Ok h) (cs:List SV) (ty:Nat):∃ hA,h.push (AB.arr cs ty)=hA/\Ok hA/\hA.next=h.next+1/\hA.get h.next=some (.arr cs ty)/\∀ k,k<h.next->hA.get k=h.get k :=
 ⟨_,rfl,jaq ok,Hp.next_push ..,by rw[jal ok,if_pos rfl],fun k hk=>by rw[jal ok,if_neg (by omega)]⟩
theorem jbv (ok:Ok h) (zs cs:List SV) (ty:Nat):∃ hA,(h.push (AB.arr zs ty)).put h.next (some (.arr cs ty))=hA/\Ok hA/\hA.next=h.next+1/\hA.get h.next=some (.arr cs ty)/\∀ k,k<h.next->hA.get k=h.get k:=by
 have hp:=ok.pos
 exact⟨_,rfl,jao (jaq ok),by rw[Hp.next_put,Hp.next_push],by rw[jai (jaq ok) hp,if_pos rfl],fun k hk=>by rw[jai (jaq ok) hp,if_neg (by omega),jal ok,if_neg (by omega)]⟩
noncomputable def qhc (n size:Nat) (agg:Bool) (x i:Option AV):Option AV:=ob x (fun v=>ob i (fun w=>AV.casesOn (motive:=fun _=>Option AV) v (fun _=>none) (fun cs=>jig w n (fun m=>ob (jby size (jci (Nat.mul m size) cs)) (fun cs=>jf2 agg cs))) (fun _=>none) none none))
theorem j8x {n size:Nat} {x i:Od}:pop st fr (.ival n size agg x i)=qhc n size agg (ev st fr x) (ev st fr i):=rfl
theorem qhd {b:SV}:qhc 2 1 false (some (.agg [a,b])) (some (vi 0))=some (.s a):=rfl
theorem qhe {b:SV}:qhc 2 1 false (some (.agg [a,b])) (some (vi 1))=some (.s b):=rfl
noncomputable def qnr (neg agg:Bool) (sig:List Bool) (x y:Option AV):Option AV:=ob x (fun a=>ob y (fun b=>qaf agg a (fun xs=>qaf agg b (fun ys=>ob (jcn sig xs ys) (fun e=>some (AV.s (SV.bool (oif neg (jkt e) e))))))))
theorem jfd {neg:Bool} {sig:List Bool} {x y:Od}:pop st fr (.eqv neg agg sig x y)=qnr neg agg sig (ev st fr x) (ev st fr y):=rfl
theorem qb2 {a b c d:Int}:qnr false true [false,false] (some (.agg [.int .i64 a,.int .i64 b])) (some (.agg [.int .i64 c,.int .i64 d]))=some (vb (decide (a=c/\b=d))):=by
 show some (AV.s (SV.bool (oif (ieq a c) (oif (ieq b d) true false) false)))=_
 rw[jbm,jbm]
 by_cases h1:a=c<;>by_cases h2:b=d<;>simp[h1,h2,jax]
theorem qtu {a b:Bool}:qnr false false [true] (some (vb a)) (some (vb b))=some (vb (decide (a=b))):=by
 cases a<;>cases b<;>rfl
theorem qns (ok:Ok h) {m:Nat×Nat} (m1:2<=m.1/\m.1<=10) (m2:2<=m.2/\m.2<=10):WC F3 35 [.agg [si m.1,si m.2]] h (fun v h'=>∃ d,jgm true h' d v=some (vi 0)):=by
 refine jba (no3 rfl rfl rfl) qur rfl ?_
 unfold qnh
 obtain⟨hA,eA,okA,nA,xA,gA⟩:=jei ok [si m.1,si m.2] 30
 have a1:((m.1:Int)<2)=False:=by simp;omega
 have a2:(10<(m.1:Int))=False:=by simp;omega
 have b1:((m.2:Int)<2)=False:=by simp;omega
 have b2:(10<(m.2:Int))=False:=by simp;omega
 simp(disch:=first|omega|rfl) only[go_sem,eA,xA]
 rw[jaj]
 unfold qdo qdn
 simp(disch:=first|omega|rfl) only[go_sem,jac,j8x,qhd,a1,a2]
 rw[jaj]
 simp(disch:=first|omega|rfl) only[go_sem,jac,j8x,qhe,b1,b2]
 rw[jaj]
 simp(disch:=first|omega|rfl) only[go_sem]
 exact⟨1,rfl⟩
theorem qhf (ok:Ok h) (hv:v<f.values.length):WC F3 59 [.agg [jae jat f.values,jae ja0 f.blocks],vi v] h (fun v h'=>∃ d,jgm true h' d v=some (vb true)):=by
 refine jba (no3 rfl rfl rfl) qr0 rfl ?_
 unfold qdu
 obtain⟨hA,eA,okA,nA,xA,gA⟩:=jei ok [jae jat f.values,jae ja0 f.blocks] 26
 have a1:(0<=(v:Int))=True:=by simp
 have a2:((v:Int)<(f.values.length:Int))=True:=by simp;omega
 have ll:=jah (enc:=jat) (l:=f.values)
 simp(disch:=first|omega|rfl) only[go_sem,eA,xA,a1,a2,ll]
 exact⟨1,rfl⟩
theorem qnt {l:List Ms.Ins} (hl:l.length<=10000) (hp:∀ x∈l,x.ops.length<=6/\x.spoils.length<=20) {x8 x9 x10 x11 x12 x13 x14 x15:AV} :
 ∀ (d i:Nat) (_:i+d=l.length) {hi:Hp} (_:Ok hi) {x2 x3 x5:AV}
  (hQ:∀ hj x2 x3 x5,Ok hj->hi.next<=hj.next->(∀ k,k<hi.next->hj.get k=hi.get k)->Q (.exit 2) (.mk [x0,x1,x2,x3,.s (jae jdo l),x5,vi l.length,vi l.length,x8,x9,x10,x11,x12,x13,x14,x15,x16,x17] hj)),
  W F3 j1h.loop (.mk [x0,x1,x2,x3,.s (jae jdo l),x5,vi l.length,vi i,x8,x9,x10,x11,x12,x13,x14,x15,x16,x17] hi) Q
 | 0,i,hd,hi,ok,x2,x3,x5,hQ=>by
  obtain rfl:i=l.length:=by omega
  rw[jaj]
  unfold j1h
  simp(disch:=first|omega|rfl) only[go_sem,f0u]
  exact hQ hi _ _ _ ok (f0f _) (fun _ _=>rfl)
 | d+1,i,hd,hi,ok,x2,x3,x5,hQ=>by
  have hlt:(i:Int)<l.length:=by omega
  obtain⟨x,hget⟩:∃ x,l[i]?=some x:=⟨_,f0a (by omega)⟩
  have hx:=hp x (f0c hget)
  have hix:=jag (enc:=jdo) (size:=3) hget rfl
  have hs:(i:Int)+1=((i+1:Nat):Int):=by omega
  obtain⟨hA,eA,okA,nA,xA,gA⟩:=jbv ok [.int .i64 0,.nilSlice,.nilSlice] (jdo x) 57
  have l1:=jah (enc:=ja5) (l:=x.ops)
  have l2:=jah (enc:=jcr) (l:=x.spoils)
  have c1:(6<(x.ops.length:Int))=False:=by simp;omega
  have c2:(20<(x.spoils.length:Int))=False:=by simp;omega
  unfold jdo at xA eA
  rw[jaj]
  unfold j1h qdp
  simp(disch:=first|omega|rfl) only[go_sem,jac,eq_true hlt,hix,jdo,eA,xA,l1,l2,c1,c2,hs]
  exact qnt hl hp d (i+1) (by omega) okA (fun hj x2 x3 x5 o n g=>hQ hj x2 x3 x5 o (by omega) (fun k hk=>(g k (by omega)).trans (gA k hk)))
theorem jw2 {l:List Blk} {i:Nat} {b:Blk} (h:l[i]?=some b):sm (l.take (i+1))=sm (l.take i)+b.instrs.length:=by
 have hi:i<l.length:=by
  rcases f0g i l.length with h1 | h1
  .exact h1
  .rw [f0o h1] at h;cases h
 rw[f0a hi] at h
 obtain rfl:=Option.some.inj h
 rw[List.take_succ_eq_append_getElem hi,jp1]
 simp[sm]
theorem j38 (l:List Blk) (i:Nat):sm (l.take i)<=sm l:=by
 have:sm (l.take i++l.drop i)=sm (l.take i)+sm (l.drop i):=jp1 _ _
 rw[List.take_append_drop] at this;omega
theorem qd5 {m:Nat×Nat} (k:FcOk m f) :
 ∀ (d i:Nat) (_:i+d=f.blocks.length) {hi:Hp} (_:Ok hi) {x2 x3 x4 x5 x6 x7 x8 x10 x11 x13:AV}
  (hQ:∀ hj x2 x3 x4 x5 x6 x7 x8 x9 x10 x11 x13,Q (.exit 0) (.mk [x0,x1,x2,x3,x4,x5,x6,x7,x8,x9,x10,x11,.s (jae ja0 f.blocks),x13,vi f.blocks.length,vi f.blocks.length,x16,x17] hj)),
  W F3 j1i.loop (.mk [x0,x1,x2,x3,x4,x5,x6,x7,x8,vi (sm (f.blocks.take i)),x10,x11,.s (jae ja0 f.blocks),x13,vi f.blocks.length,vi i,x16,x17] hi) Q
 | 0,i,hd,hi,ok,x2,x3,x4,x5,x6,x7,x8,x10,x11,x13,hQ=>by
  obtain rfl:i=f.blocks.length:=by omega
  rw[jaj]
  unfold j1i
  simp(disch:=first|omega|rfl) only[go_sem,f0u]
  exact hQ hi ..
 | d+1,i,hd,hi,ok,x2,x3,x4,x5,x6,x7,x8,x10,x11,x13,hQ=>by
  have nb:=k.nb
  have hlt:(i:Int)<f.blocks.length:=by omega
  obtain⟨b,hget⟩:∃ b,f.blocks[i]?=some b:=⟨_,f0a (by omega)⟩
  have hmem:=f0c hget
  have hb:=k.blk b hmem
  have hin:∀ x∈b.instrs,x.ops.length<=6/\x.spoils.length<=20:=fun x hx=>⟨(k.ins b hmem x hx).nops,(k.ins b hmem x hx).nsp⟩
  have hix:=jag (enc:=ja0) (size:=3) hget rfl
  have hs:(i:Int)+1=((i+1:Nat):Int):=by omega
  have hsm:=jw2 hget
  have hle:=j38 f.blocks (i+1)
  have hall:=k.all
  have hadd:((sm (f.blocks.take i):Nat):Int)+(b.instrs.length:Int)=((sm (f.blocks.take (i+1)):Nat):Int):=by omega
  obtain⟨hA,eA,okA,nA,xA,gA⟩:=jbv ok [.nilSlice,.nilSlice,.nilSlice] (ja0 b) 36
  have l1:=jah (enc:=jat) (l:=b.params)
  have l2:=jah (enc:=jdo) (l:=b.instrs)
  have l3:=jah (enc:=jg0) (l:=b.edges)
  have c1:(5<(b.params.length:Int))=False:=by simp;omega
  have c2:(40<(b.instrs.length:Int))=False:=by simp;omega
  have c3:(3<(b.edges.length:Int))=False:=by simp;omega
  have c4:(160<((sm (f.blocks.take (i+1)):Nat):Int))=False:=by simp;omega
  unfold ja0 at xA eA
  rw[jaj]
  unfold j1i qds qdr qdq
  simp(disch:=first|omega|rfl) only[go_sem,jac,eq_true hlt,hix,ja0,eA,xA,l1,l2,l3,c1,c2,c3,hadd,c4]
  refine qnt (by omega) hin b.instrs.length 0 (by omega) okA (fun hj x2 x3 x5 o n g=>?_)
  simp(disch:=first|omega|rfl) only[go_sem,jac,hs]
  exact qd5 k d (i+1) (by omega) o hQ
theorem qnu (ok:Ok h) {m:Nat×Nat} (k:FcOk m f):WC F3 36 [.agg [jae jat f.values,jae ja0 f.blocks]] h (fun v h'=>∃ d,jgm true h' d v=some (vi 0)):=by
 refine jba (no3 rfl rfl rfl) qus rfl ?_
 unfold qni
 have nb:=k.nb
 have nv:=k.nv
 obtain⟨hA,eA,okA,nA,xA,gA⟩:=jei ok [jae jat f.values,jae ja0 f.blocks] 26
 have l1:=jah (enc:=jat) (l:=f.values)
 have l2:=jah (enc:=ja0) (l:=f.blocks)
 have c1:((f.blocks.length:Int)<1)=False:=by simp;omega
 have c2:(16<(f.blocks.length:Int))=False:=by simp;omega
 have c3:(160<(f.values.length:Int))=False:=by simp;omega
 simp(disch:=first|omega|rfl) only[go_sem,eA,xA,l1,l2,c1,c2,c3]
 unfold qdt
 simp(disch:=first|omega|rfl) only[go_sem,xA,l2]
 refine qd5 k f.blocks.length 0 (by omega) okA (fun hj x2 x3 x4 x5 x6 x7 x8 x9 x10 x11 x13=>?_)
 simp(disch:=first|omega|rfl) only[go_sem]
 exact⟨1,rfl⟩
theorem jp5 {vs:List Nat} (h:v<vs.length):vs[v]?=some (cl vs v):=by
 unfold cl;rw[f0d,f0a h];rfl
theorem qhg (ok:Ok h) {x:Ms.Ins} {o u:Ms.Opd} (h1:x.ops[o.n]?=some u) (h2:u.kind=1) (h3:u.late=false) (h4:cl f.values u.value=cl f.values o.value) (h5:u.value<f.values.length) (h6:o.value<f.values.length) :
 WC F3 55 [.agg [jae jat f.values,jae ja0 f.blocks],.agg [si x.op,jae ja5 x.ops,jae jcr x.spoils],.agg [si o.kind,si o.value,.bool o.late,si o.limit,si o.n]] h (fun v h'=>∃ d,jgm true h' d v=some (vi 0)):=by
 obtain⟨kd,vl,lt,lm,n⟩:=o
 obtain⟨ukd,uvl,ult,ulm,un⟩:=u
 simp only at h1 h2 h3 h4 h5 h6
 subst h2 h3
 refine jba (no3 rfl rfl rfl) qnk rfl ?_
 unfold j71
 obtain⟨hA,eA,okA,nA,xA,gA⟩:=jei ok [jae jat f.values,jae ja0 f.blocks] 26
 obtain⟨hB,eB,okB,nB,xB,gB⟩:=jei okA [si x.op,jae ja5 x.ops,jae jcr x.spoils] 57
 obtain⟨hC,eC,okC,nC,xC,gC⟩:=jei okB [si kd,si vl,.bool lt,si lm,si n] 59
 obtain⟨hD,eD,okD,nD,xD,gD⟩:=jbv okC [.int .i64 0,.int .i64 0,.bool false,.int .i64 0,.int .i64 0] [si 1,si uvl,.bool false,si ulm,si un] 59
 have yA:=(gC _ (by omega)).trans ((gB _ (by omega)).trans xA)
 have yB:=(gC _ (by omega)).trans xB
 have zA:=(gD _ (by omega)).trans yA
 have zC:=(gD _ (by omega)).trans xC
 have nb:hB.next=h.next+2:=by omega
 have nc:hC.next=h.next+3:=by omega
 rw[nA] at xB yB
 rw[nb] at xC zC
 rw[nc] at eD xD
 have hl:n<x.ops.length:=by
  rcases f0g n x.ops.length with h7 | h7
  .exact h7
  .rw [f0o h7] at h1;cases h1
 have l1:=jah (enc:=ja5) (l:=x.ops)
 have ix:=jag (enc:=ja5) (size:=5) h1 rfl
 have i1:=jag (enc:=jat) (size:=1) (jp5 h5) rfl
 have i2:=jag (enc:=jat) (size:=1) (jp5 h6) rfl
 have c1:((n:Int)<0)=False:=by simp
 have c2:((x.ops.length:Int)<=(n:Int))=False:=by simp;omega
 have c3:(((1:Nat):Int)≠1)=False:=by simp
 have c4:((cl f.values uvl:Int)≠(cl f.values vl:Int))=False:=by simp[h4]
 simp(disch:=first|omega|rfl) only[go_sem,eA,eB,eC,nA,nb,xA,yA,yB,xC,l1,ix,ja5,c1,c2]
 unfold j1m j1l j1k j1j
 simp(disch:=first|omega|rfl) only[go_sem,yA,yB,xC,ix,ja5,eD,nc,xD,zA,zC,i1,i2,jat,c4]
 exact⟨1,rfl⟩
theorem jne {bm:Nat} {m:Nat×Nat} {l:List (Nat×Nat)} (hl:l.length<=10000) (hr:∀ r∈l,r.1<2/\r.2<g2 m r.1) (hord:∀ (i:Nat) (q r:Nat×Nat),l[i]?=some q->l[i+1]?=some r->q.1<r.1∨(q.1=r.1/\q.2<r.2)) {x2:AV} :
 ∀ (d i:Nat) (_:i+d=l.length) {hi:Hp} (_:Ok hi) (_:bm<hi.next) (_:hi.get bm=some (.arr [si m.1,si m.2] 30)) {x3 x4 x5 x7 x9:AV}
  (hQ:∀ hj x3 x4 x5 x7 x9,Q (.exit 0) (.mk [x0,.s (jae jcr l),x2,x3,x4,x5,.s (.ptr bm 0),x7,.s (jae jcr l),x9,vi l.length,vi l.length] hj)),
  W F3 jna.loop (.mk [x0,.s (jae jcr l),x2,x3,x4,x5,.s (.ptr bm 0),x7,.s (jae jcr l),x9,vi l.length,vi i] hi) Q
 | 0,i,hd,hi,ok,hb,xb,x3,x4,x5,x7,x9,hQ=>by
  obtain rfl:i=l.length:=by omega
  rw[jaj]
  unfold jna
  simp(disch:=first|omega|rfl) only[go_sem,f0u]
  exact hQ hi ..
 | d+1,i,hd,hi,ok,hb,xb,x3,x4,x5,x7,x9,hQ=>by
  have hlt:(i:Int)<l.length:=by omega
  obtain⟨⟨c,n⟩,hget⟩:∃ x,l[i]?=some x:=⟨_,f0a (by omega)⟩
  have hx:=hr _ (f0c hget)
  have hix:=jag (enc:=jcr) (size:=2) hget rfl
  have hs:(i:Int)+1=((i+1:Nat):Int):=by omega
  obtain⟨hA,eA,okA,nA,xA,gA⟩:=jbv ok [.int .i64 0,.int .i64 0] (jcr (c,n)) 48
  have yb:=(gA _ hb).trans xb
  unfold jcr at xA eA
  simp only at xA eA hx
  have c1:((c:Int)<0)=False:=by simp
  have c2:(2<=(c:Int))=False:=by simp;omega
  have c3:((n:Int)<0)=False:=by simp
  have hm:(c=0/\n<m.1)∨(c=1/\n<m.2):=by
   have:c=0∨c=1:=by omega
   rcases this with rfl | rfl
   .exact .inl ⟨rfl,hx.2⟩
   .exact .inr ⟨rfl,hx.2⟩
  have hrd:∃ k,rdB (hA.get bm) c 1=some [si (k:Nat)]/\n<k:=by
   rw[yb]
   rcases hm with⟨rfl,h⟩ | ⟨rfl,h⟩
   .exact ⟨m.1,rfl,h⟩
   .exact ⟨m.2,rfl,h⟩
  obtain⟨k,hrd,hk⟩:=hrd
  have hxa:=jcq (n:=2) (size:=1) (b:=bm) (off:=0) (m:=c) (by omega)
  rw[f0y,f3j] at hxa
  have c4:((k:Int)<=(n:Int))=False:=by simp;omega
  rw[jaj]
  unfold jna j1o j1n
  simp(disch:=first|omega|rfl) only[go_sem,jac,eq_true hlt,hix,jcr,eA,xA,c1,c2,c3,hxa,hrd,c4]
  have xA':=xA
  cases i with
  | zero =>
   unfold juc jub
   simp(disch:=first|omega|rfl) only[go_sem,jac,hix,jcr,eA,xA,hs,f0u]
   exact jne hl hr hord d (0+1) (by omega) okA (by omega) yb hQ
  | succ j =>
   obtain⟨⟨pc,pn⟩,hp⟩:∃ x,l[j]?=some x:=⟨_,f0a (by omega)⟩
   have hpx:=jag (enc:=jcr) (size:=2) hp rfl
   have ho:=hord j _ _ hp hget
   simp only at ho
   have p0:(0<((j+1:Nat):Int))=True:=eq_true (by omega)
   have p1:((j+1:Nat):Int) - 1=(j:Int):=by omega
   have q1:((c:Int)<(pc:Int))=False:=by simp;omega
   unfold juc jub
   by_cases e:pc=c
   .subst e
    have q2:((pc:Int)=(pc:Int))=True:=by simp
    have q3:((n:Int)<=(pn:Int))=False:=by simp;omega
    simp(disch:=first|omega|rfl) only[go_sem,jac,hix,hpx,jcr,eA,xA,hs,p0,p1,q1,q2,q3]
    exact jne hl hr hord d (j+1+1) (by omega) okA (by omega) yb hQ
   .have q2:((pc:Int)=(c:Int))=False:=by simp;omega
    simp(disch:=first|omega|rfl) only[go_sem,jac,hix,hpx,jcr,eA,xA,hs,p0,p1,q1,q2]
    exact jne hl hr hord d (j+1+1) (by omega) okA (by omega) yb hQ
theorem qhh (ok:Ok h) {m:Nat×Nat} {l:List (Nat×Nat)} (hl:l.length<=10000) (hr:∀ r∈l,r.1<2/\r.2<g2 m r.1) (hord:∀ (i:Nat) (q r:Nat×Nat),l[i]?=some q->l[i+1]?=some r->q.1<r.1∨(q.1=r.1/\q.2<r.2)) :
 WC F3 56 [.agg [si m.1,si m.2],.s (jae jcr l)] h (fun v h'=>∃ d,jgm true h' d v=some (vi 0)):=by
 refine jba (no3 rfl rfl rfl) qnl rfl ?_
 unfold j72
 obtain⟨hA,eA,okA,nA,xA,gA⟩:=jei ok [si m.1,si m.2] 30
 have l1:=jah (enc:=jcr) (l:=l)
 simp(disch:=first|omega|rfl) only[go_sem,eA,xA,l1]
 refine jne hl hr hord l.length 0 (by omega) okA (by omega) xA (fun hj x3 x4 x5 x7 x9=>?_)
 simp(disch:=first|omega|rfl) only[go_sem]
 exact⟨1,rfl⟩
theorem jw3 (ok:Ok h) {n:Nat} (ha:kd=1) (hb:ukd=1∨ukd=2):WC F3 77 [.agg [si kd,si vl,.bool lt,si lm,si n],.agg [si ukd,si uvl,.bool ult,si ulm,si un]] h (fun v h'=>v=vb (if ukd=1 then decide (vl≠uvl) else (lt || !ult))):=by
 refine jba (no3 rfl rfl rfl) qdv rfl ?_
 unfold jzs
 obtain⟨hA,eA,okA,nA,xA,gA⟩:=jei ok [si kd,si vl,.bool lt,si lm,si n] 59
 obtain⟨hB,eB,okB,nB,xB,gB⟩:=jei okA [si ukd,si uvl,.bool ult,si ulm,si un] 59
 have yA:=(gB _ (by omega)).trans xA
 rw[nA] at xB
 have a1:((kd:Int)=1)=True:=eq_true (by omega)
 have a2:((kd:Int)=2)=False:=eq_false (by omega)
 by_cases e1:ukd=1
 .have b1:((ukd:Int)=1)=True:=eq_true (by omega)
  simp(disch:=first|omega|rfl) only[go_sem,eA,nA,eB,xB,yA,a1,b1]
  rw[if_pos e1]
  by_cases e:vl=uvl
  .subst e;simp
  .have:¬ ((vl:Int)=(uvl:Int)):=by omega
   simp[e,this]
 .have b1:((ukd:Int)=1)=False:=eq_false (by omega)
  rw[if_neg e1]
  cases lt<;>cases ult<;>(simp(disch:=first|omega|rfl) only[go_sem,eA,nA,eB,xB,yA,a1,a2,b1];try rfl)
theorem qb3 (ok:Ok h) {n:Nat} (ha:kd=1∨kd=2) (hb:ukd=1∨ukd=2):WC F3 77 [.agg [si kd,si vl,.bool lt,si lm,si n],.agg [si ukd,si uvl,.bool ult,si ulm,si un]] h (fun v h'=>∃ b d,jgm true h' d v=some (vb b)):=by
 rcases ha with ha | ha
 .exact WC.imp (jw3 ok ha hb) (fun v h' e=>by subst e;exact⟨_,1,rfl⟩)
 .refine jba (no3 rfl rfl rfl) qdv rfl ?_
  unfold jzs
  obtain⟨hA,eA,okA,nA,xA,gA⟩:=jei ok [si kd,si vl,.bool lt,si lm,si n] 59
  obtain⟨hB,eB,okB,nB,xB,gB⟩:=jei okA [si ukd,si uvl,.bool ult,si ulm,si un] 59
  have yA:=(gB _ (by omega)).trans xA
  rw[nA] at xB
  have a1:((kd:Int)=1)=False:=eq_false (by omega)
  have a2:((kd:Int)=2)=True:=eq_true (by omega)
  rcases hb with hb | hb
  .have b2:((ukd:Int)=2)=False:=eq_false (by omega)
   simp(disch:=first|omega|rfl) only[go_sem,eA,nA,eB,xB,yA,a1,a2,b2]
   refine WC.imp (jw3 okB hb (.inr ha)) (fun v h' e=>?_)
   subst e
   simp(disch:=first|omega|rfl) only[go_sem]
   exact⟨_,1,rfl⟩
  .have b2:((ukd:Int)=2)=True:=eq_true (by omega)
   simp(disch:=first|omega|rfl) only[go_sem,eA,nA,eB,xB,yA,a1,a2,b2]
   exact⟨_,1,rfl⟩
end Go.Proofs.Ytalbjjoppndjjaa.Ev
