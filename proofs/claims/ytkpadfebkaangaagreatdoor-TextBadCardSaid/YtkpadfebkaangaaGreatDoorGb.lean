/- Code of functions as the interpreter has it prepared, cut at loops. -/
import Derived.Test.YtkpadfebkaangaaGreatDoorMc11
import Derived.Test.YtkpadfebkaangaaGreatDoorVd
namespace Go.Proofs.YtkpadfebkaangaaGreatDoor.Ev
noncomputable section
open Go Go.RowKit
set_option linter.all false
set_option maxRecDepth 100000
def qiq:IC:=.seq (.block 1 (qr [qP (.ival 2 1 false (.g 4) (.g 6)),qT 3] (qr [qM 3,qP (.bin .lt qa (qC 2)),qP (.mv qa),qR 0 false (.mv (.g 3)),qR 1 false (.bin .gt qa (qC 10)),qQ 2 (.pick qc (.c (.s (.bool true))) qa)] (.cond (.g 2) (qr [qQ 1 (.mv (qC 2))] .ret) .skip)))) (.region [qI 6,qT 6])
def qir:IC:=qr [qQ 5 (.bin .lt (.g 6) (qC 2))] (.seq (qX 5 0) qiq)
def qty:IC:=qr [qB 7 (.box 28 (.g 0)),qQ 1 (.mv (qC 0))] (.seq (qr [qF 0 7,qB 4 (.load 2 true qa),qQ 6 (.mv (qC 0))] (.block 0 (.loop qir))) (qr [qQ 1 (.mv (qC 0))] .ret))
theorem q64:T 57=some (.mk qty 1 7 [(.tmp 1)]):=ka
def qis:IC:=.seq (.block 3 (qr [qP (.ixs 3 (.g 4) (.g 7)),qK 3,qB 3 (.new 62 [.int .i64 0,.nilSlice,.nilSlice]),qA (.store 3 qa qb)] (qr [qF 1 3,qL,qP (.len qa),qP (.bin .gt qa (qC 6)),qP (.mv qa),qR 0 false (.fld 2 (.g 3)),qS 1 false (.load 1 false qa),qR 2 false (.len qa),qR 3 false (.bin .gt qa (qC 20)),qQ 2 (.pick (.l 4) (.c (.s (.bool true))) qa)] (.cond (.g 2) (qr [qQ 1 (.mv (qC 1))] .ret) .skip)))) (.region [qI 7,qT 7])
def j4u:IC:=qr [qQ 5 (.bin .lt (.g 7) (.g 6))] (.seq (qX 5 2) qis)
def qit:IC:=qr [qF 1 11,qB 4 (.load 1 false qa),qQ 6 (.len qa),qQ 7 (.mv (qC 0))] (.block 2 (.loop j4u))
def qiu:IC:=.seq (qr [qM 9,qF 1 11,qL,qP (.len qa),qP (.bin .add qd qa),qT 9] (qr [qM 9,qQ 8 (.bin .gt qa (qC 160))] (.cond (.g 8) (qr [qQ 1 (.mv (qC 1))] .ret) .skip))) qit
def qiv:IC:=.seq (.block 1 (qr [qP (.ixs 3 (.g 12) (.g 15)),qK 3,qB 11 (.new 58 [.nilSlice,.nilSlice,.nilSlice]),qA (.store 3 qa qb)] (.seq (qr [qF 0 11,qL,qP (.len qa),qP (.bin .gt qa (qC 5)),qP (.mv qa),qR 0 false (.fld 1 (.g 11)),qS 1 false (.load 1 false qa),qR 2 false (.len qa),qR 3 false (.bin .gt qa (qC 40)),qP (.pick (.l 4) (.c (.s (.bool true))) qa),qP (.mv qa),qR 0 false (.fld 2 (.g 11)),qS 1 false (.load 1 false qa),qR 2 false (.len qa),qR 3 false (.bin .gt qa (qC 3)),qQ 10 (.pick (.l 4) (.c (.s (.bool true))) qa)] (.cond (.g 10) (qr [qQ 1 (.mv (qC 1))] .ret) .skip)) qiu))) (.region [qI 15,qT 15])
def j4v:IC:=qr [qQ 13 (.bin .lt (.g 15) (.g 14))] (.seq (qX 13 0) qiv)
def qiw:IC:=qr [qQ 9 (.mv (qC 0))] (.seq (qr [qF 1 17,qB 12 (.load 1 false qa),qQ 14 (.len qa),qQ 15 (.mv (qC 0))] (.block 0 (.loop j4v))) (qr [qQ 1 (.mv (qC 0))] .ret))
def qtz:IC:=qr [qB 17 (.box 32 (.g 0)),qQ 1 (.mv (qC 0))] (.seq (qr [qF 1 17,qL,qP (.len qa),qP (.bin .lt qa (qC 1)),qP (.mv qa),qR 0 false (.fld 1 (.g 17)),qS 1 false (.load 1 false qa),qR 2 false (.len qa),qR 3 false (.bin .gt qa (qC 16)),qP (.pick (.l 4) (.c (.s (.bool true))) qa),qP (.mv qa),qR 0 false (.fld 0 (.g 17)),qS 1 false (.load 1 false qa),qR 2 false (.len qa),qR 3 false (.bin .gt qa (qC 160)),qQ 16 (.pick (.l 4) (.c (.s (.bool true))) qa)] (.cond (.g 16) (qr [qQ 1 (.mv (qC 1))] .ret) .skip)) qiw)
theorem q65:T 58=some (.mk qtz 1 17 [(.tmp 1)]):=ka
def qix:IC:=qr [qB 3 (.box 32 (.g 0)),qQ 2 (.mv (.c (.s (.bool false))))] (qr [qM 1,qP (.bin .ge qa (qC 0)),qP (.mv qa),qR 0 true (.mv (.g 1)),qR 1 true (.fld 0 (.g 3)),qS 2 true (.load 1 false qa),qR 3 true (.len qa),qR 4 true (.bin .lt qd qa),qP (.pick (.l 5) qa (.c (.s (.bool false)))),qT 2] .ret)
theorem q1p:T 87=some (.mk qix 2 2 [(.tmp 2)]):=ka
def jiy:IC:=.draw [(qF 3 10,.none),(qL,.some []),(qP (.bin .eq qa (qC 4)),.none),(qP (.mv qa),.none),(qR 0 true (.fld 4 (.g 10)),.none),(qS 1 true (.load 1 false qa),.some []),(qR 2 true (.bin .lt qa (qC 0)),.none),(qR 3 true (.mv qa),.none),(qR 0 false (.fld 4 (.g 10)),.none),(qS 1 false (.load 1 false qa),.some []),(qR 2 false (.fld 0 (.g 8)),.none),(qS 3 false (.load 1 false qa),.some [1]),(qR 4 false (.fld 1 (.g 10)),.none),(qS 5 false (.load 1 false qa),.some [1,3]),(qR 6 false (.ixs 1 qc qa),.none),(qS 7 false (.load 1 false qa),.some [5]),(qR 8 false (.fld 0 (.g 6)),.none),(qR 9 false (.ixa 2 1 qa qb),.none),(qS 10 false (.load 1 false qa),.some [8]),(qR 11 false (.bin .ge (.l 9) qa),.none),(qR 16 true (.pick (.l 12) (.c (.s (.bool true))) qa),.none),(qP (.pick (.l 17) qa (.c (.s (.bool false)))),.none),(qT 5,.none)]
def jiz:IC:=.cond (.g 4) (qr [qQ 3 (.mv (qC 4))] .ret) .skip
def ji0:IC:=.cond (.g 9) (qr [qQ 3 (.mv (qC 3))] .ret) (qr [qA (.load 2 true (.g 8)),qF 1 10,qL,qA (.call 87 [qc,qa]),qP (.not qa),qT 7] (.cond (.g 7) (qr [qQ 3 (.mv (qC 2))] .ret) (.seq jiy (.cond (.g 5) (qr [qQ 3 (.mv (qC 2))] .ret) (.seq (qr [qF 3 10,qL,qP (.bin .le qa (qC 3)),qP (.mv qa),qR 0 true (.fld 4 (.g 10)),qS 1 true (.load 1 false qa),qR 2 true (.bin .ne qa (qC 0)),qP (.pick qd qa (.c (.s (.bool false)))),qT 4] (.cond (.g 4) .skip (.region [qF 3 10,qL,qP (.bin .eq qa (qC 5)),qP (.mv qa),qR 0 true (.fld 0 (.g 10)),qS 1 true (.load 1 false qa),qR 2 true (.bin .ne qa (qC 2)),qR 3 true (.mv qa),qR 0 false (.fld 2 (.g 10)),qS 1 false (.load 1 false qa),qR 2 false (.not qa),qR 7 true (.pick qd (.c (.s (.bool true))) qa),qP (.pick (.l 8) qa (.c (.s (.bool false)))),qT 4]))) jiz)))))
def qbz:IC:=qr [qB 8 (.box 32 (.g 0)),qB 6 (.box 28 (.g 1)),qB 10 (.box 80 (.g 2)),qQ 3 (.mv (qC 0))] (.seq (.block 0 (.seq (qr [qF 0 10,qL,qP (.bin .ne qa (qC 1)),qP (.mv qa),qR 0 true (.fld 0 (.g 10)),qS 1 true (.load 1 false qa),qR 2 true (.bin .ne qa (qC 2)),qP (.pick qd qa (.c (.s (.bool false)))),qT 9] (.cond (.g 9) .skip (.region [qF 3 10,qL,qP (.bin .lt qa (qC 1)),qP (.mv qa),qR 0 false (.fld 3 (.g 10)),qS 1 false (.load 1 false qa),qR 2 false (.bin .gt qa (qC 5)),qP (.pick qd (.c (.s (.bool true))) qa),qT 9]))) ji0)) (qr [qQ 3 (.mv (qC 0))] .ret))
theorem qt0:T 82=some (.mk qbz 3 8 [(.tmp 3)]):=ka
def j4w:IC:=.draw [(qF 0 5,.none),(qL,.some []),(qF 1 7,.none),(qL,.some [1]),(qP (.ixs 1 qc qa),.none),(qL,.some []),(qF 0 5,.none),(qL,.some [1,3,5]),(qF 1 10,.none),(qL,.some [1,3,5,7]),(qP (.ixs 1 qc qa),.none),(qL,.some [5,7,9]),(qQ 4 (.bin .ne (.l 6) qa),.none)]
def j4x:IC:=qr [qQ 3 (.mv (qC 0))] .ret
def j4y:IC:=.seq (.seq j4w (.cond (.g 4) (qr [qQ 3 (.mv (qC 17))] .ret) .skip)) j4x
def j4z:IC:=qr [qF 1 9,qL,qF 4 10,qL,qP (.ixs 5 qc qa),qK 5,qB 7 (.new 80 [.int .i64 0,.int .i64 0,.bool false,.int .i64 0,.int .i64 0]),qA (.store 5 qa qb)] (.seq (qr [qF 0 7,qL,qP (.bin .ne qa (qC 1)),qP (.mv qa),qR 0 false (.fld 2 (.g 7)),qS 1 false (.load 1 false qa),qQ 6 (.pick qc (.c (.s (.bool true))) qa)] (.cond (.g 6) (qr [qQ 3 (.mv (qC 4))] .ret) .skip)) j4y)
def qb0:IC:=qr [qB 5 (.box 32 (.g 0)),qB 9 (.box 62 (.g 1)),qB 10 (.box 80 (.g 2)),qQ 3 (.mv (qC 0))] (.seq (qr [qF 4 10,qL,qP (.bin .lt qa (qC 0)),qP (.mv qa),qR 0 false (.fld 4 (.g 10)),qS 1 false (.load 1 false qa),qR 2 false (.fld 1 (.g 9)),qS 3 false (.load 1 false qa),qR 4 false (.len qa),qR 5 false (.bin .ge qd qa),qQ 8 (.pick (.l 6) (.c (.s (.bool true))) qa)] (.cond (.g 8) (qr [qQ 3 (.mv (qC 6))] .ret) .skip)) j4z)
theorem qt1:T 83=some (.mk qb0 3 8 [(.tmp 3)]):=ka
def j40:IC:=.draw [(qF 0 7,.none),(qL,.some []),(qP (.bin .lt qa (qC 0)),.none),(qP (.mv qa),.none),(qR 0 false (.fld 0 (.g 7)),.none),(qS 1 false (.load 1 false qa),.some []),(qR 2 false (.bin .ge qa (qC 2)),.none),(qP (.pick qd (.c (.s (.bool true))) qa),.none),(qP (.mv qa),.none),(qR 0 false (.fld 1 (.g 7)),.none),(qS 1 false (.load 1 false qa),.some []),(qR 2 false (.bin .lt qa (qC 0)),.none),(qP (.pick qd (.c (.s (.bool true))) qa),.none),(qP (.mv qa),.none),(qR 0 false (.fld 1 (.g 7)),.none),(qS 1 false (.load 1 false qa),.some []),(qR 2 false (.fld 0 (.g 7)),.none),(qS 3 false (.load 1 false qa),.some [1]),(qR 4 false (.fld 0 (.g 6)),.none),(qR 5 false (.ixa 2 1 qa qb),.none),(qS 6 false (.load 1 false qa),.some [4]),(qR 7 false (.bin .ge (.l 5) qa),.none),(qQ 5 (.pick (.l 8) (.c (.s (.bool true))) qa),.none)]
def jwf:IC:=.draw [(qM 4,.none),(qP (.bin .gt qa (qC 0)),.none),(qP (.mv qa),.none),(qR 0 true (.mv (.g 1)),.none),(qR 1 true (.mv (.g 4)),.none),(qR 2 true (.bin .sub qa (qC 1)),.none),(qR 3 true (.ixs 2 qc qa),.none),(qR 4 true (.fld 0 qa),.none),(qS 5 true (.load 1 false qa),.some []),(qR 6 true (.fld 0 (.g 7)),.none),(qS 7 true (.load 1 false qa),.some [1]),(qR 8 true (.bin .gt qc qa),.none),(qR 9 true (.mv qa),.none),(qR 0 false (.mv (.g 1)),.none),(qR 1 false (.mv (.g 4)),.none),(qR 2 false (.bin .sub qa (qC 1)),.none),(qR 3 false (.ixs 2 qc qa),.none),(qR 4 false (.fld 0 qa),.none),(qS 5 false (.load 1 false qa),.some []),(qR 6 false (.fld 0 (.g 7)),.none),(qS 7 false (.load 1 false qa),.some [1]),(qR 8 false (.bin .eq qc qa),.none),(qR 9 false (.mv qa),.none),(qR 0 true (.mv (.g 1)),.none),(qR 1 true (.mv (.g 4)),.none),(qR 2 true (.bin .sub qa (qC 1)),.none),(qR 3 true (.ixs 2 qc qa),.none),(qR 4 true (.fld 1 qa),.none),(qS 5 true (.load 1 false qa),.some []),(qR 6 true (.fld 1 (.g 7)),.none),(qS 7 true (.load 1 false qa),.some [1]),(qR 8 true (.bin .ge qc qa),.none),(qR 19 false (.pick (.l 9) qa (.c (.s (.bool false)))),.none),(qR 30 true (.pick (.l 20) (.c (.s (.bool true))) qa),.none),(qQ 3 (.pick (.l 31) qa (.c (.s (.bool false)))),.none)]
def jwg:IC:=.seq jwf (.cond (.g 3) (qr [qQ 2 (.mv (qC 4))] .ret) .skip)
def j41:IC:=.seq (.block 1 (qr [qM 11,qP (.ixs 2 (.g 8) (.g 11)),qK 2,qB 7 (.new 83 [.int .i64 0,.int .i64 0]),qQ 4 (.mv qd),qA (.store 2 qb qc)] (.seq (.seq j40 (.cond (.g 5) (qr [qQ 2 (.mv (qC 2))] .ret) .skip)) jwg))) (.region [qI 11,qT 11])
def joo:IC:=qr [qQ 9 (.bin .lt (.g 11) (.g 10))] (.seq (qX 9 0) j41)
def qb1:IC:=qr [qB 6 (.box 28 (.g 0)),qQ 2 (.mv (qC 0))] (.seq (qr [qQ 8 (.mv (.g 1)),qQ 10 (.len qa),qQ 11 (.mv (qC 0))] (.block 0 (.loop joo))) (qr [qQ 2 (.mv (qC 0))] .ret))
theorem qt2:T 84=some (.mk qb1 2 10 [(.tmp 2)]):=ka
def j2s:IC:=qr [qB 7 (.box 80 (.g 0)),qB 6 (.box 80 (.g 1)),qQ 2 (.mv (.c (.s (.bool false))))] (.seq (.block 0 (qr [qF 0 7,qL,qP (.bin .eq qa (qC 1)),qP (.mv qa),qR 0 true (.fld 0 (.g 6)),qS 1 true (.load 1 false qa),qR 2 true (.bin .eq qa (qC 1)),qP (.pick qd qa (.c (.s (.bool false)))),qT 5] (.cond (.g 5) (qr [qF 1 7,qL,qF 1 6,qL,qP (.bin .ne qc qa),qT 2] .ret) (qr [qF 0 7,qL,qP (.bin .eq qa (qC 2)),qP (.mv qa),qR 0 true (.fld 0 (.g 6)),qS 1 true (.load 1 false qa),qR 2 true (.bin .eq qa (qC 2)),qP (.pick qd qa (.c (.s (.bool false)))),qT 4] (.cond (.g 4) (qr [qQ 2 (.mv (.c (.s (.bool true))))] .ret) (qr [qF 0 7,qL,qP (.bin .eq qa (qC 2)),qT 3] (.cond (.g 3) (qr [qA (.load 5 true (.g 6)),qA (.load 5 true (.g 7)),qA (.call 109 [qb,qa]),qT 2] .ret) .skip))))))) (qr [qF 2 7,qL,qP (.mv qa),qR 0 false (.fld 2 (.g 6)),qS 1 false (.load 1 false qa),qR 2 false (.not qa),qP (.pick qd (.c (.s (.bool true))) qa),qT 2] .ret))
theorem qiy:T 109=some (.mk j2s 2 6 [(.tmp 2)]):=ka
def j42:IC:=.draw [(qF 0 4,.none),(qL,.some []),(qF 1 9,.none),(qL,.some [1]),(qP (.ixs 1 qc qa),.none),(qL,.some []),(qF 4 9,.none),(qL,.some [1,3,5]),(qP (.build [.int .i64 0,.int .i64 0] [(0,(1,qc)),(1,(1,qa))]),.none),(qA (.store 2 (.g 5) qa),.none),(qQ 3 (.mv (.c (.s (.bool true)))),.none)]
def j43:IC:=.seq j42 .ret
def jwh:IC:=.seq (qr [qF 3 9,qL,qQ 6 (.bin .ne qa (qC 4))] (.cond (.g 6) (qr [qP (.build [.int .i64 0,.int .i64 0] []),qA (.store 2 (.g 5) qa),qQ 3 (.mv (.c (.s (.bool false))))] .ret) .skip)) j43
def qb2:IC:=qr [qB 4 (.box 32 (.g 0)),qB 7 (.box 62 (.g 1)),qB 9 (.box 80 (.g 2)),qB 5 (.new 83 [.int .i64 0,.int .i64 0]),qQ 3 (.mv (.c (.s (.bool false))))] (.seq (qr [qF 3 9,qL,qQ 8 (.bin .eq qa (qC 5))] (.cond (.g 8) (.region [qF 1 7,qL,qF 4 9,qL,qP (.ixs 5 qc qa),qK 5,qA (.store 5 (.g 9) qa)]) .skip)) jwh)
theorem qt3:T 107=some (.mk qb2 3 7 [(.cell 5 2 true),(.tmp 3)]):=ka
def jhe:IC:=qr [qF 3 19,qL,qP (.bin .eq qa (qC 5)),qP (.mv qa),qR 0 true (.fld 4 (.g 19)),qS 1 true (.load 1 false qa),qR 2 true (.mv (.g 7)),qR 3 true (.bin .eq qb qa),qP (.pick (.l 4) qa (.c (.s (.bool false)))),qP (.mv qa),qR 0 false (.fld 3 (.g 9)),qS 1 false (.load 1 false qa),qR 2 false (.bin .eq qa (qC 5)),qR 3 false (.mv qa),qR 0 true (.fld 4 (.g 9)),qS 1 true (.load 1 false qa),qR 2 true (.mv (.g 14)),qR 3 true (.bin .eq qb qa),qR 8 false (.pick (.l 4) qa (.c (.s (.bool false)))),qP (.pick (.l 9) (.c (.s (.bool true))) qa),qT 4] (qr [qM 18,qP (.mv qa),qR 0 true (.mv (.g 6)),qP (.pick qb qa (.c (.s (.bool false)))),qP (.mv qa),qS 0 true (.load 2 true (.g 5)),qS 1 true (.load 2 true (.g 17)),qR 2 true (.eqv false true [false,false] qb qa),qP (.pick qd qa (.c (.s (.bool false)))),qP (.mv qa),qS 0 true (.load 5 true (.g 19)),qS 1 true (.load 5 true (.g 9)),qS 2 true (.call 109 [qb,qa]),qP (.pick qd qa (.c (.s (.bool false)))),qP (.mv qa),qR 0 true (.mv (.g 4)),qR 1 true (.not qa),qQ 3 (.pick qc qa (.c (.s (.bool false))))] (.cond (.g 3) (qr [qQ 2 (.mv (.c (.s (.bool true))))] .ret) .skip))
def qb3:IC:=.seq (.block 3 (qr [qM 13,qP (.ixs 5 (.g 10) (.g 13)),qK 5,qB 9 (.new 80 [.int .i64 0,.int .i64 0,.bool false,.int .i64 0,.int .i64 0]),qQ 7 (.mv qd),qA (.store 5 qb qc)] (qr [qA (.load 2 true (.g 20)),qA (.load 3 true (.g 25)),qA (.load 5 true (.g 9)),qA (.call 107 [qc,qb,qa]),qP (.mv qa),qP (.ext 0 qa),qP (.ext 1 qb),qB 5 (.new 83 [.int .i64 0,.int .i64 0]),qA (.store 2 qa qc),qQ 6 (.mv qc)] (.seq (qr [qF 3 19,qL,qP (.bin .eq qa (qC 5)),qP (.mv qa),qR 0 true (.fld 3 (.g 9)),qS 1 true (.load 1 false qa),qR 2 true (.bin .eq qa (qC 5)),qP (.pick qd qa (.c (.s (.bool false)))),qP (.mv qa),qR 0 true (.fld 4 (.g 19)),qS 1 true (.load 1 false qa),qR 2 true (.fld 4 (.g 9)),qS 3 true (.load 1 false qa),qR 4 true (.bin .eq qc qa),qQ 8 (.pick (.l 5) qa (.c (.s (.bool false))))] (.cond (.g 8) (qr [qQ 2 (.mv (.c (.s (.bool true))))] .ret) .skip)) jhe)))) (.region [qI 13,qT 13])
def jrq:IC:=qr [qQ 11 (.bin .lt (.g 13) (.g 12))] (.seq (qX 11 2) qb3)
def j2t:IC:=qr [qF 1 25,qL,qM 14,qQ 10 (.slice 5 qb .none (.some qa)),qQ 12 (.len qa),qQ 13 (.mv (qC 0))] (.block 2 (.loop jrq))
def qb4:IC:=.seq (qr [qM 18,qP (.mv qa),qR 0 true (.fld 0 (.g 19)),qS 1 true (.load 1 false qa),qR 2 true (.bin .eq qa (qC 2)),qP (.pick qd qa (.c (.s (.bool false)))),qP (.mv qa),qR 0 true (.fld 2 (.g 19)),qS 1 true (.load 1 false qa),qR 2 true (.not qa),qP (.pick qd qa (.c (.s (.bool false)))),qP (.mv qa),qR 0 true (.fld 2 (.g 25)),qS 1 true (.load 1 false qa),qS 2 true (.load 2 true (.g 17)),qS 3 true (.call 108 [qb,qa]),qQ 15 (.pick (.l 4) qa (.c (.s (.bool false))))] (.cond (.g 15) (qr [qQ 2 (.mv (.c (.s (.bool true))))] .ret) .skip)) j2t
def qb5:IC:=.seq (.block 1 (qr [qM 24,qP (.ixs 5 (.g 21) (.g 24)),qK 5,qB 19 (.new 80 [.int .i64 0,.int .i64 0,.bool false,.int .i64 0,.int .i64 0]),qQ 14 (.mv qd),qA (.store 5 qb qc)] (qr [qA (.load 2 true (.g 20)),qA (.load 3 true (.g 25)),qA (.load 5 true (.g 19)),qA (.call 107 [qc,qb,qa]),qP (.mv qa),qP (.ext 0 qa),qP (.ext 1 qb),qB 17 (.new 83 [.int .i64 0,.int .i64 0]),qA (.store 2 qa qc),qQ 18 (.mv qc)] (.seq (qr [qM 18,qP (.mv qa),qR 0 true (.fld 2 (.g 19)),qS 1 true (.load 1 false qa),qP (.pick qc qa (.c (.s (.bool false)))),qP (.mv qa),qR 0 true (.fld 2 (.g 25)),qS 1 true (.load 1 false qa),qS 2 true (.load 2 true (.g 17)),qS 3 true (.call 108 [qb,qa]),qQ 16 (.pick (.l 4) qa (.c (.s (.bool false))))] (.cond (.g 16) (qr [qQ 2 (.mv (.c (.s (.bool true))))] .ret) .skip)) qb4)))) (.region [qI 24,qT 24])
def jrr:IC:=qr [qQ 22 (.bin .lt (.g 24) (.g 23))] (.seq (qX 22 0) qb5)
def qiz:IC:=qr [qB 20 (.box 32 (.g 0)),qB 25 (.box 62 (.g 1)),qQ 2 (.mv (.c (.s (.bool false))))] (.seq (qr [qF 1 25,qB 21 (.load 1 false qa),qQ 23 (.len qa),qQ 24 (.mv (qC 0))] (.block 0 (.loop jrr))) (qr [qQ 2 (.mv (.c (.s (.bool false))))] .ret))
theorem q1q:T 85=some (.mk qiz 2 24 [(.tmp 2)]):=ka
def qi0:IC:=.seq (.block 1 (qr [qP (.ixs 2 (.g 16) (.g 19)),qK 2,qB 15 (.new 83 [.int .i64 0,.int .i64 0]),qA (.store 2 qa qb)] (qr [qF 0 15,qL,qM 3,qQ 14 (.bin .eq qb qa)] (.cond (.g 14) (.region [qM 13,qP (.bin .add qa (qC 1)),qT 13]) .skip)))) (.region [qI 19,qT 19])
def j44:IC:=qr [qQ 17 (.bin .lt (.g 19) (.g 18))] (.seq (qX 17 0) qi0)
def qi1:IC:=.seq (.block 3 (qr [qP (.ixs 5 (.g 9) (.g 12)),qK 5,qB 7 (.new 80 [.int .i64 0,.int .i64 0,.bool false,.int .i64 0,.int .i64 0]),qA (.store 5 qa qb)] (qr [qF 0 8,qL,qF 1 7,qL,qP (.ixs 1 qc qa),qL,qM 3,qP (.bin .eq qb qa),qP (.mv qa),qR 0 true (.fld 3 (.g 7)),qS 1 true (.load 1 false qa),qR 2 true (.bin .ne qa (qC 1)),qP (.pick qd qa (.c (.s (.bool false)))),qP (.mv qa),qR 0 true (.fld 3 (.g 7)),qS 1 true (.load 1 false qa),qR 2 true (.bin .ne qa (qC 3)),qQ 6 (.pick qd qa (.c (.s (.bool false))))] (.cond (.g 6) (.region [qM 13,qP (.bin .add qa (qC 1)),qT 13]) .skip)))) (.region [qI 12,qT 12])
def jzt:IC:=qr [qQ 10 (.bin .lt (.g 12) (.g 11))] (.seq (qX 10 2) qi1)
def qt4:IC:=qr [qB 8 (.box 32 (.g 0)),qB 5 (.box 28 (.g 1)),qB 20 (.box 62 (.g 2)),qQ 4 (.mv (.c (.s (.bool false))))] (qr [qQ 13 (.mv (qC 0))] (.seq (qr [qF 2 20,qB 16 (.load 1 false qa),qQ 18 (.len qa),qQ 19 (.mv (qC 0))] (.block 0 (.loop j44))) (.seq (qr [qF 1 20,qB 9 (.load 1 false qa),qQ 11 (.len qa),qQ 12 (.mv (qC 0))] (.block 2 (.loop jzt))) (qr [qM 13,qM 3,qF 0 5,qP (.ixa 2 1 qa qb),qL,qP (.bin .lt (.l 4) qa),qT 4] .ret))))
theorem q66:T 86=some (.mk qt4 4 17 [(.tmp 4)]):=ka
def qb6:IC:=.seq (.block 1 (qr [qP (.ixs 5 (.g 24) (.g 27)),qK 5,qB 21 (.new 80 [.int .i64 0,.int .i64 0,.bool false,.int .i64 0,.int .i64 0]),qA (.store 5 qa qb)] (qr [qA (.load 2 true (.g 23)),qA (.load 2 true (.g 22)),qA (.load 5 true (.g 21)),qA (.call 82 [qc,qb,qa]),qT 20] (qr [qM 20,qQ 19 (.bin .ne qa (qC 0))] (.cond (.g 19) (qr [qM 20,qT 3] .ret) .skip))))) (.region [qI 27,qT 27])
def jwi:IC:=qr [qQ 25 (.bin .lt (.g 27) (.g 26))] (.seq (qX 25 0) qb6)
def qb7:IC:=qr [qA (.load 2 true (.g 23)),qA (.load 3 true (.g 29)),qA (.load 5 true (.g 14)),qA (.call 83 [qc,qb,qa]),qT 12] (qr [qM 12,qQ 11 (.bin .ne qa (qC 0))] (.cond (.g 11) (qr [qM 12,qT 3] .ret) .skip))
def qb8:IC:=.seq (.block 3 (qr [qP (.ixs 5 (.g 15) (.g 18)),qK 5,qB 14 (.new 80 [.int .i64 0,.int .i64 0,.bool false,.int .i64 0,.int .i64 0]),qA (.store 5 qa qb)] (.seq (qr [qF 3 14,qL,qQ 13 (.bin .ne qa (qC 5))] (.cond (.g 13) (.exit 3) .skip)) qb7))) (.region [qI 18,qT 18])
def jrs:IC:=qr [qQ 16 (.bin .lt (.g 18) (.g 17))] (.seq (qX 16 2) qb8)
def qb9:IC:=.seq (.block 5 (qr [qM 7,qT 5] (qr [qA (.load 2 true (.g 23)),qA (.load 2 true (.g 22)),qA (.load 3 true (.g 29)),qM 5,qA (.call 86 [qd,qc,qb,qa]),qQ 4 (.not qa)] (.cond (.g 4) (qr [qQ 3 (.mv (qC 8))] .ret) .skip)))) (.region [qI 7,qT 7])
def qca:IC:=qr [qQ 6 (.bin .lt (.g 7) (qC 2))] (.seq (qX 6 4) qb9)
def qcb:IC:=.seq (qr [qQ 7 (.mv (qC 0))] (.block 4 (.loop qca))) (qr [qQ 3 (.mv (qC 0))] .ret)
def qcc:IC:=.seq (qr [qA (.load 2 true (.g 23)),qA (.load 3 true (.g 29)),qB 8 (.call 85 [qb,qa])] (.cond (.g 8) (qr [qQ 3 (.mv (qC 12))] .ret) .skip)) qcb
def qcd:IC:=.seq (qr [qF 1 29,qB 24 (.load 1 false qa),qQ 26 (.len qa),qQ 27 (.mv (qC 0))] (.block 0 (.loop jwi))) (.seq (qr [qF 1 29,qB 15 (.load 1 false qa),qQ 17 (.len qa),qQ 18 (.mv (qC 0))] (.block 2 (.loop jrs))) (.seq (qr [qA (.load 2 true (.g 22)),qF 2 29,qL,qA (.call 84 [qc,qa]),qT 10] (qr [qM 10,qQ 9 (.bin .ne qa (qC 0))] (.cond (.g 9) (qr [qM 10,qT 3] .ret) .skip))) qcc))
def qi2:IC:=qr [qB 23 (.box 32 (.g 0)),qB 22 (.box 28 (.g 1)),qB 29 (.box 62 (.g 2)),qQ 3 (.mv (qC 0))] (.seq (qr [qF 0 29,qL,qP (.bin .lt qa (qC 0)),qP (.mv qa),qR 0 false (.fld 0 (.g 29)),qS 1 false (.load 1 false qa),qR 2 false (.bin .gt qa (qC 255)),qQ 28 (.pick qd (.c (.s (.bool true))) qa)] (.cond (.g 28) (qr [qQ 3 (.mv (qC 2))] .ret) .skip)) qcd)
theorem q1r:T 59=some (.mk qi2 3 27 [(.tmp 3)]):=ka
def j45:IC:=.draw [(qA (.load 2 true (.g 14)),.some []),(qM 12,.none),(qM 4,.none),(qP (.ixs 1 qb qa),.none),(qL,.some [3]),(qA (.call 87 [.l 4,qa]),.some []),(qP (.not qa),.none),(qP (.mv qa),.none),(qR 0 false (.fld 0 (.g 14)),.none),(qS 1 false (.load 1 false qa),.some []),(qR 2 false (.mv (.g 12)),.none),(qR 3 false (.mv (.g 4)),.none),(qR 4 false (.ixs 1 qb qa),.none),(qS 5 false (.load 1 false qa),.some [3]),(qR 6 false (.ixs 1 (.l 4) qa),.none),(qS 7 false (.load 1 false qa),.some []),(qR 8 false (.fld 0 (.g 14)),.none),(qS 9 false (.load 1 false qa),.some [1,3,7]),(qR 10 false (.mv (.g 6)),.none),(qR 11 false (.ixs 1 qb qa),.none),(qS 12 false (.load 1 false qa),.some [4,6,10]),(qR 13 false (.bin .ne (.l 5) qa),.none),(qQ 3 (.pick (.l 14) (.c (.s (.bool true))) qa),.none)]
def j46:IC:=.seq j45 (.cond (.g 3) (qr [qQ 2 (.mv (qC 17))] .ret) .skip)
def j47:IC:=.seq (.block 1 (qr [qM 10,qP (.ixs 1 (.g 7) (.g 10)),qL,qQ 4 (.mv qc),qQ 6 (.mv qb)] (.seq (qr [qA (.load 2 true (.g 14)),qM 6,qA (.call 87 [qb,qa]),qQ 5 (.not qa)] (.cond (.g 5) (qr [qQ 2 (.mv (qC 2))] .ret) .skip)) j46))) (.region [qI 10,qT 10])
def jop:IC:=qr [qQ 8 (.bin .lt (.g 10) (.g 9))] (.seq (qX 8 0) j47)
def j48:IC:=.seq (qr [qF 1 15,qB 7 (.load 1 false qa),qQ 9 (.len qa),qQ 10 (.mv (qC 0))] (.block 0 (.loop jop))) (qr [qQ 2 (.mv (qC 0))] .ret)
def j49:IC:=qr [qF 1 14,qL,qF 0 15,qL,qP (.ixs 3 qc qa),qG 0,qL,qT 12] (.seq (qr [qF 1 15,qL,qP (.len qa),qM 12,qP (.len qa),qQ 11 (.bin .ne qc qa)] (.cond (.g 11) (qr [qQ 2 (.mv (qC 4))] .ret) .skip)) j48)
def qce:IC:=qr [qB 14 (.box 32 (.g 0)),qB 15 (.box 65 (.g 1)),qQ 2 (.mv (qC 0))] (.seq (qr [qF 0 15,qL,qP (.bin .lt qa (qC 1)),qP (.mv qa),qR 0 false (.fld 0 (.g 15)),qS 1 false (.load 1 false qa),qR 2 false (.fld 1 (.g 14)),qS 3 false (.load 1 false qa),qR 4 false (.len qa),qR 5 false (.bin .ge qd qa),qQ 13 (.pick (.l 6) (.c (.s (.bool true))) qa)] (.cond (.g 13) (qr [qQ 2 (.mv (qC 6))] .ret) .skip)) j49)
theorem qt5:T 60=some (.mk qce 2 14 [(.tmp 2)]):=ka
def qcf:IC:=.seq (.block 3 (qr [qP (.ixs 1 (.g 20) (.g 23)),qL,qT 18] (qr [qM 19,qM 18,qA (.callv qb [qa]),qT 17] (qr [qM 17,qQ 16 (.bin .ne qa (qC 0))] (.cond (.g 16) (qr [qM 17,qT 1] .ret) .skip))))) (.region [qI 23,qT 23])
def jwj:IC:=qr [qQ 21 (.bin .lt (.g 23) (.g 22))] (.seq (qX 21 2) qcf)
def qcg:IC:=qr [qM 19,qF 1 6,qL,qA (.callv qc [qa]),qT 4] (qr [qM 4,qQ 3 (.bin .ne qa (qC 0))] (.cond (.g 3) (qr [qM 4,qT 1] .ret) .skip))
def qch:IC:=.seq (.block 7 (qr [qP (.ixs 5 (.g 7) (.g 10)),qK 5,qB 6 (.new 80 [.int .i64 0,.int .i64 0,.bool false,.int .i64 0,.int .i64 0]),qA (.store 5 qa qb)] (.seq (qr [qF 0 6,qL,qQ 5 (.bin .ne qa (qC 2))] (.cond (.g 5) (.exit 7) .skip)) qcg))) (.region [qI 10,qT 10])
def jwk:IC:=qr [qQ 8 (.bin .lt (.g 10) (.g 9))] (.seq (qX 8 6) qch)
def qci:IC:=.seq (.block 5 (qr [qP (.ixs 3 (.g 12) (.g 15)),qK 3,qB 11 (.new 62 [.int .i64 0,.nilSlice,.nilSlice]),qA (.store 3 qa qb)] (qr [qF 1 11,qB 7 (.load 1 false qa),qQ 9 (.len qa),qQ 10 (.mv (qC 0))] (.block 6 (.loop jwk))))) (.region [qI 15,qT 15])
def jwl:IC:=qr [qQ 13 (.bin .lt (.g 15) (.g 14))] (.seq (qX 13 4) qci)
def qcj:IC:=.seq (.block 1 (qr [qP (.ixs 3 (.g 25) (.g 28)),qK 3,qB 24 (.new 58 [.nilSlice,.nilSlice,.nilSlice]),qA (.store 3 qa qb)] (.seq (qr [qF 0 24,qB 20 (.load 1 false qa),qQ 22 (.len qa),qQ 23 (.mv (qC 0))] (.block 2 (.loop jwj))) (qr [qF 1 24,qB 12 (.load 1 false qa),qQ 14 (.len qa),qQ 15 (.mv (qC 0))] (.block 4 (.loop jwl)))))) (.region [qI 28,qT 28])
def jwm:IC:=qr [qQ 26 (.bin .lt (.g 28) (.g 27))] (.seq (qX 26 0) qcj)
def qck:IC:=qr [qQ 1 (.mv (qC 0))] .ret
def qi3:IC:=qr [qB 30 (.box 32 (.g 0)),qQ 1 (.mv (qC 0))] (qr [qF 0 30,qL,qP (.len qa),qA (.mkslice 4 1 1 [.bool false] qa qa),qB 29 (.new 130 [.nilSlice]),qA (.store 1 qa qb)] (qr [qP (.mkfun 88 [.g 30,.g 29]),qT 19] (.seq (qr [qF 1 30,qB 25 (.load 1 false qa),qQ 27 (.len qa),qQ 28 (.mv (qC 0))] (.block 0 (.loop jwm))) (.seq (qr [qA (.load 1 false (.g 29)),qB 2 (.call 89 [qa,.c (.s (.bool false))])] (.cond (.g 2) (qr [qQ 1 (.mv (qC 6))] .ret) .skip)) qck))))
theorem q1s:T 61=some (.mk qi3 1 30 [(.tmp 1)]):=ka
def qcl:IC:=qr [qA (.load 1 false (.g 2)),qM 0,qP (.ixs 1 qb qa),qA (.store 1 qa (.c (.s (.bool true))))] (qr [qQ 3 (.mv (qC 0))] .ret)
def qcm:IC:=.seq (qr [qA (.load 1 false (.g 2)),qM 0,qP (.ixs 1 qb qa),qB 4 (.load 1 false qa)] (.cond (.g 4) (qr [qQ 3 (.mv (qC 7))] .ret) .skip)) qcl
def qi4:IC:=qr [qQ 3 (.mv (qC 0))] (.seq (qr [qA (.load 2 true (.g 1)),qM 0,qA (.call 87 [qb,qa]),qQ 5 (.not qa)] (.cond (.g 5) (qr [qQ 3 (.mv (qC 2))] .ret) .skip)) qcm)
theorem q1t:T 88=some (.mk qi4 3 3 [(.tmp 3)]):=ka
def qcn:IC:=.seq (.block 1 (qr [qP (.ixs 1 (.g 26) (.g 29)),qL,qT 25] (qr [qM 25,qP (.bin .lt qa (qC 0)),qP (.mv qa),qR 0 false (.mv (.g 25)),qR 1 false (.bin .ge qa (qC 2)),qQ 24 (.pick qc (.c (.s (.bool true))) qa)] (.cond (.g 24) (qr [qQ 2 (.mv (qC 17))] .ret) .skip)))) (.region [qI 29,qT 29])
def jwn:IC:=qr [qQ 27 (.bin .lt (.g 29) (.g 28))] (.seq (qX 27 0) qcn)
def qco:IC:=.seq (.block 5 (qr [qP (.ixs 3 (.g 14) (.g 17)),qK 3,qB 13 (.new 62 [.int .i64 0,.nilSlice,.nilSlice]),qA (.store 3 qa qb)] (qr [qA (.load 2 true (.g 32)),qA (.load 2 true (.g 35)),qA (.load 3 true (.g 13)),qA (.call 59 [qc,qb,qa]),qT 12] (qr [qM 12,qQ 11 (.bin .ne qa (qC 0))] (.cond (.g 11) (qr [qM 12,qT 2] .ret) .skip))))) (.region [qI 17,qT 17])
def jwo:IC:=qr [qQ 15 (.bin .lt (.g 17) (.g 16))] (.seq (qX 15 4) qco)
def qcp:IC:=.seq (.block 7 (qr [qP (.ixs 2 (.g 6) (.g 9)),qK 2,qB 5 (.new 65 [.int .i64 0,.nilSlice]),qA (.store 2 qa qb)] (qr [qA (.load 2 true (.g 32)),qA (.load 2 true (.g 5)),qA (.call 60 [qb,qa]),qT 4] (qr [qM 4,qQ 3 (.bin .ne qa (qC 0))] (.cond (.g 3) (qr [qM 4,qT 2] .ret) .skip))))) (.region [qI 9,qT 9])
def jwp:IC:=qr [qQ 7 (.bin .lt (.g 9) (.g 8))] (.seq (qX 7 6) qcp)
def j2u:IC:=qr [qF 2 18,qB 6 (.load 1 false qa),qQ 8 (.len qa),qQ 9 (.mv (qC 0))] (.block 6 (.loop jwp))
def qcq:IC:=.seq (.block 3 (qr [qP (.ixs 3 (.g 19) (.g 22)),qK 3,qB 18 (.new 58 [.nilSlice,.nilSlice,.nilSlice]),qA (.store 3 qa qb)] (.seq (qr [qF 1 18,qB 14 (.load 1 false qa),qQ 16 (.len qa),qQ 17 (.mv (qC 0))] (.block 4 (.loop jwo))) (.seq (qr [qF 2 18,qL,qP (.len qa),qP (.bin .gt qa (qC 1)),qP (.mv qa),qR 0 true (.fld 1 (.g 18)),qS 1 true (.load 1 false qa),qR 2 true (.len qa),qR 3 true (.bin .eq qa (qC 0)),qQ 10 (.pick (.l 4) qa (.c (.s (.bool false))))] (.cond (.g 10) (qr [qQ 2 (.mv (qC 4))] .ret) .skip)) j2u)))) (.region [qI 22,qT 22])
def jwq:IC:=qr [qQ 20 (.bin .lt (.g 22) (.g 21))] (.seq (qX 20 2) qcq)
def qcr:IC:=.seq (qr [qF 1 32,qB 19 (.load 1 false qa),qQ 21 (.len qa),qQ 22 (.mv (qC 0))] (.block 2 (.loop jwq))) (qr [qA (.load 2 true (.g 32)),qA (.call 61 [qa]),qT 2] .ret)
def qcs:IC:=.seq (qr [qF 0 32,qB 26 (.load 1 false qa),qQ 28 (.len qa),qQ 29 (.mv (qC 0))] (.block 0 (.loop jwn))) (.seq (qr [qF 1 32,qL,qP (.ixs 3 qa (qC 0)),qG 0,qL,qP (.len qa),qQ 23 (.bin .gt qa (qC 0))] (.cond (.g 23) (qr [qQ 2 (.mv (qC 4))] .ret) .skip)) qcr)
def qct:IC:=.seq (qr [qA (.load 2 true (.g 32)),qA (.call 58 [qa]),qT 31] (qr [qM 31,qQ 30 (.bin .ne qa (qC 0))] (.cond (.g 30) (qr [qM 31,qT 2] .ret) .skip))) qcs
def qi5:IC:=qr [qB 32 (.box 32 (.g 0)),qB 35 (.box 28 (.g 1)),qQ 2 (.mv (qC 0))] (.seq (qr [qA (.load 2 true (.g 35)),qA (.call 57 [qa]),qT 34] (qr [qM 34,qQ 33 (.bin .ne qa (qC 0))] (.cond (.g 33) (qr [qM 34,qT 2] .ret) .skip))) qct)
theorem q1u:T 41=some (.mk qi5 2 34 [(.tmp 2)]):=ka
def qi6:IC:=qr [qB 3 (.box 83 (.g 1)),qQ 2 (.mv (.c (.s (.bool false))))] (qr [qM 0,qA (.load 2 true (.g 3)),qA (.call 119 [qb,qa]),qP (.bin .ge qa (qC 0)),qT 2] .ret)
theorem q1v:T 108=some (.mk qi6 2 2 [(.tmp 2)]):=ka
def j5a:IC:=.draw [(qA (.load 2 true (.g 5)),.some []),(qM 0,.none),(qM 4,.none),(qP (.ixs 2 qb qa),.none),(qK 2,.some [3]),(qQ 3 (.eqv false true [false,false] (.l 4) qa),.none)]
def j5b:IC:=.seq (.block 1 (qr [qM 8,qT 4] (.seq j5a (.cond (.g 3) (qr [qM 4,qT 2] .ret) .skip)))) (.region [qI 8,qT 8])
def joq:IC:=qr [qQ 6 (.bin .lt (.g 8) (.g 7))] (.seq (qX 6 0) j5b)
def qcu:IC:=qr [qB 5 (.box 83 (.g 1)),qQ 2 (.mv (qC 0))] (.seq (qr [qM 0,qQ 7 (.len qa),qQ 8 (.mv (qC 0))] (.block 0 (.loop joq))) (qr [qQ 2 (.mv (qC (-1)))] .ret))
theorem qt6:T 119=some (.mk qcu 2 7 [(.tmp 2)]):=ka
def qi7:IC:=qr [qQ 2 (.mv (.c (.s (.bool false))))] (qr [qM 0,qM 1,qA (.call 110 [qb,qa]),qP (.bin .ge qa (qC 0)),qT 2] .ret)
theorem q1w:T 89=some (.mk qi7 2 1 [(.tmp 2)]):=ka
def j5c:IC:=.seq (.block 1 (qr [qM 7,qT 4] (qr [qM 1,qM 0,qM 4,qP (.ixs 1 qb qa),qL,qQ 3 (.eqv false false [true] (.l 4) qa)] (.cond (.g 3) (qr [qM 4,qT 2] .ret) .skip)))) (.region [qI 7,qT 7])
def jor:IC:=qr [qQ 5 (.bin .lt (.g 7) (.g 6))] (.seq (qX 5 0) j5c)
def qcv:IC:=qr [qQ 2 (.mv (qC 0))] (.seq (qr [qM 0,qQ 6 (.len qa),qQ 7 (.mv (qC 0))] (.block 0 (.loop jor))) (qr [qQ 2 (.mv (qC (-1)))] .ret))
theorem qt7:T 110=some (.mk qcv 2 6 [(.tmp 2)]):=ka
open Go Go.RowKit Go.Proofs.YtkpadfebkaangaaGreatDoor.Ms
variable {x0 x1 x2 x3 x4 x5 x6 x7 x8 x9 x10 x11 x12 x13 x14 x15 x16 x17 x18 x19 x20 x21 x22 x23 x24 x25 x26 x27 x28 x29 x30 x31 x33 x34 x35:AV} {agg:Bool} {fr st vs:List AV} {ns ps:List Nat} {row:List SV} {v bO bP bR bX ukd:Nat} {r:Nat×Nat}
set_option maxHeartbeats 2000000
theorem jeb {h:Hp} (ok:Ok h) (cs:List SV) (ty:Nat):∃ hA,h.push (AB.arr cs ty)=hA/\Ok hA/\hA.next=h.next+1/\hA.get h.next=some (.arr cs ty)/\∀ k,k<h.next->hA.get k=h.get k :=
 ⟨_,rfl,ja5 ok,Hp.next_push ..,by rw[ja0 ok,if_pos rfl],fun k hk=>by rw[ja0 ok,if_neg oa]⟩
theorem jci {h:Hp} (ok:Ok h) (zs cs:List SV) (ty:Nat):∃ hA,(h.push (AB.arr zs ty)).put h.next (some (.arr cs ty))=hA/\Ok hA/\hA.next=h.next+1/\hA.get h.next=some (.arr cs ty)/\∀ k,k<h.next->hA.get k=h.get k:=by
 have hp:=ok.pos
 exact⟨_,rfl,jas (ja5 ok),by rw[Hp.next_put,Hp.next_push],by rw[jak (ja5 ok) hp,if_pos rfl],fun k hk=>by rw[jak (ja5 ok) hp,if_neg oa,ja0 ok,if_neg oa]⟩
def qmw (n size:Nat) (agg:Bool) (x i:Option AV):Option AV:=ob x (fun v=>ob i (fun w=>AV.casesOn (motive:=fun _=>Option AV) v (fun _=>none) (fun cs=>below w n (fun m=>ob (jbp size (jcb (Nat.mul m size) cs)) (fun cs=>jg2 agg cs))) (fun _=>none) none none))
theorem qcw {n size:Nat} {x i:Od}:pop st fr (.ival n size agg x i)=qmw n size agg (ev st fr x) (ev st fr i):=rfl
theorem qmx {a b:SV}:qmw 2 1 false (some (.agg [a,b])) (some (vi 0))=some (.s a):=rfl
theorem qmy {a b:SV}:qmw 2 1 false (some (.agg [a,b])) (some (vi 1))=some (.s b):=rfl
def q1x (neg agg:Bool) (sig:List Bool) (x y:Option AV):Option AV:=ob x (fun a=>ob y (fun b=>qfb agg a (fun xs=>qfb agg b (fun ys=>ob (jcw sig xs ys) (fun e=>some (AV.s (SV.bool (oif neg (ji6 e) e))))))))
theorem jtx {neg:Bool} {sig:List Bool} {x y:Od}:pop st fr (.eqv neg agg sig x y)=q1x neg agg sig (ev st fr x) (ev st fr y):=rfl
theorem qw8 {a b c d:Int}:q1x false true [false,false] (some (.agg [.int .i64 a,.int .i64 b])) (some (.agg [.int .i64 c,.int .i64 d]))=some (vb (decide (a=c/\b=d))):=by
 show some (AV.s (SV.bool (oif (ieq a c) (oif (ieq b d) true false) false)))=_
 rw[jdf,jdf]
 by_cases h1:a=c<;>by_cases h2:b=d<;>simp[h1,h2,jav]
theorem q3n {a b:Bool}:q1x false false [true] (some (vb a)) (some (vb b))=some (vb (decide (a=b))):=by
 cases a<;>cases b<;>rfl
theorem qt8 {h:Hp} (ok:Ok h) {m:Nat×Nat} (m1:2<=m.1/\m.1<=10) (m2:2<=m.2/\m.2<=10):WC F3 57 [.agg [si m.1,si m.2]] h (fun v h'=>∃ d,jhr true h' d v=some (vi 0)):=by
 refine ja3 (no3 rfl rfl rfl) q64 rfl ?_
 unfold qty
 obtain⟨hA,eA,okA,nA,xA,gA⟩:=jeb ok [si m.1,si m.2] 28
 have a1:((m.1:Int)<2)=False:=by simp;omega
 have a2:(10<(m.1:Int))=False:=by simp;omega
 have b1:((m.2:Int)<2)=False:=by simp;omega
 have b2:(10<(m.2:Int))=False:=by simp;omega
 simp(disch:=first|omega|rfl) only[go_sem,eA,xA]
 rw[jah]
 unfold qir qiq
 simp(disch:=first|omega|rfl) only[go_sem,jae,qcw,qmx,a1,a2]
 rw[jah]
 simp(disch:=first|omega|rfl) only[go_sem,jae,qcw,qmy,b1,b2]
 rw[jah]
 simp(disch:=first|omega|rfl) only[go_sem]
 exact⟨1,rfl⟩
theorem qmz {h:Hp} (ok:Ok h) {f:Fc} (hv:v<f.values.length):WC F3 87 [.agg [jag jaz f.values,jag ja6 f.blocks],vi v] h (fun v h'=>∃ d,jhr true h' d v=some (vb true)):=by
 refine ja3 (no3 rfl rfl rfl) q1p rfl ?_
 unfold qix
 obtain⟨hA,eA,okA,nA,xA,gA⟩:=jeb ok [jag jaz f.values,jag ja6 f.blocks] 32
 have a1:(0<=(v:Int))=True:=sc
 have a2:((v:Int)<(f.values.length:Int))=True:=by simp;omega
 have ll:=jal (enc:=jaz) (l:=f.values)
 simp(disch:=first|omega|rfl) only[go_sem,eA,xA,a1,a2,ll]
 exact⟨1,rfl⟩
theorem qt9 {l:List Ms.Ins} (hl:l.length<=10000) (hp:∀ x∈l,x.ops.length<=6/\x.spoils.length<=20) {Q:Ex->St->Prop} :
 ∀ (d i:Nat) (_:i+d=l.length) {hi:Hp} (_:Ok hi) {x2 x3 x5:AV}
  (hQ:∀ hj x2 x3 x5,Ok hj->hi.next<=hj.next->(∀ k,k<hi.next->hj.get k=hi.get k)->Q (.exit 2) (.mk [x0,x1,x2,x3,.s (jag jeh l),x5,vi l.length,vi l.length,x8,x9,x10,x11,x12,x13,x14,x15,x16,x17] hj)),
  W F3 j4u.loop (.mk [x0,x1,x2,x3,.s (jag jeh l),x5,vi l.length,vi i,x8,x9,x10,x11,x12,x13,x14,x15,x16,x17] hi) Q
 | 0,i,hd,hi,ok,x2,x3,x5,hQ=>by
  obtain rfl:i=l.length:=oa
  rw[jah]
  unfold j4u
  simp(disch:=first|omega|rfl) only[go_sem,f0s]
  exact hQ hi _ _ _ ok (f0g _) (fun _ _=>rfl)
 | d+1,i,hd,hi,ok,x2,x3,x5,hQ=>by
  have hlt:(i:Int)<l.length:=oa
  obtain⟨x,hget⟩:∃ x,l[i]?=some x:=⟨_,f0b oa⟩
  have hx:=hp x (f0c hget)
  have hix:=jai (enc:=jeh) (size:=3) hget rfl
  have hs:(i:Int)+1=((i+1:Nat):Int):=oa
  obtain⟨hA,eA,okA,nA,xA,gA⟩:=jci ok [.int .i64 0,.nilSlice,.nilSlice] (jeh x) 62
  have l1:=jal (enc:=jbe) (l:=x.ops)
  have l2:=jal (enc:=jda) (l:=x.spoils)
  have c1:(6<(x.ops.length:Int))=False:=by simp;omega
  have c2:(20<(x.spoils.length:Int))=False:=by simp;omega
  unfold jeh at xA eA
  rw[jah]
  unfold j4u qis
  simp(disch:=first|omega|rfl) only[go_sem,jae,eq_true hlt,hix,jeh,eA,xA,l1,l2,c1,c2,hs]
  exact qt9 hl hp d (i+1) oa okA (fun hj x2 x3 x5 o n g=>hQ hj x2 x3 x5 o oa (fun k hk=>(g k oa).trans (gA k hk)))
theorem jzu {l:List Blk} {i:Nat} {b:Blk} (h:l[i]?=some b):sm (l.take (i+1))=sm (l.take i)+b.instrs.length:=by
 have hi:i<l.length:=by
  rcases f0m i l.length with h1 | h1
  .exact h1
  .rw [f0v h1] at h;cases h
 rw[f0b hi] at h
 obtain rfl:=Option.some.inj h
 rw[List.take_succ_eq_append_getElem hi,jrp]
 simp[sm]
theorem j8c (l:List Blk) (i:Nat):sm (l.take i)<=sm l:=by
 have:sm (l.take i++l.drop i)=sm (l.take i)+sm (l.drop i):=jrp _ _
 rw[List.take_append_drop] at this;omega
theorem qi8 {m:Nat×Nat} {f:Fc} (k:FcOk m f) {Q:Ex->St->Prop} :
 ∀ (d i:Nat) (_:i+d=f.blocks.length) {hi:Hp} (_:Ok hi) {x2 x3 x4 x5 x6 x7 x8 x10 x11 x13:AV}
  (hQ:∀ hj x2 x3 x4 x5 x6 x7 x8 x9 x10 x11 x13,Q (.exit 0) (.mk [x0,x1,x2,x3,x4,x5,x6,x7,x8,x9,x10,x11,.s (jag ja6 f.blocks),x13,vi f.blocks.length,vi f.blocks.length,x16,x17] hj)),
  W F3 j4v.loop (.mk [x0,x1,x2,x3,x4,x5,x6,x7,x8,vi (sm (f.blocks.take i)),x10,x11,.s (jag ja6 f.blocks),x13,vi f.blocks.length,vi i,x16,x17] hi) Q
 | 0,i,hd,hi,ok,x2,x3,x4,x5,x6,x7,x8,x10,x11,x13,hQ=>by
  obtain rfl:i=f.blocks.length:=oa
  rw[jah]
  unfold j4v
  simp(disch:=first|omega|rfl) only[go_sem,f0s]
  exact hQ hi ..
 | d+1,i,hd,hi,ok,x2,x3,x4,x5,x6,x7,x8,x10,x11,x13,hQ=>by
  have nb:=k.nb
  have hlt:(i:Int)<f.blocks.length:=oa
  obtain⟨b,hget⟩:∃ b,f.blocks[i]?=some b:=⟨_,f0b oa⟩
  have hmem:=f0c hget
  have hb:=k.blk b hmem
  have hin:∀ x∈b.instrs,x.ops.length<=6/\x.spoils.length<=20:=fun x hx=>⟨(k.ins b hmem x hx).nops,(k.ins b hmem x hx).nsp⟩
  have hix:=jai (enc:=ja6) (size:=3) hget rfl
  have hs:(i:Int)+1=((i+1:Nat):Int):=oa
  have hsm:=jzu hget
  have hle:=j8c f.blocks (i+1)
  have hall:=k.all
  have hadd:((sm (f.blocks.take i):Nat):Int)+(b.instrs.length:Int)=((sm (f.blocks.take (i+1)):Nat):Int):=oa
  obtain⟨hA,eA,okA,nA,xA,gA⟩:=jci ok [.nilSlice,.nilSlice,.nilSlice] (ja6 b) 58
  have l1:=jal (enc:=jaz) (l:=b.params)
  have l2:=jal (enc:=jeh) (l:=b.instrs)
  have l3:=jal (enc:=jgi) (l:=b.edges)
  have c1:(5<(b.params.length:Int))=False:=by simp;omega
  have c2:(40<(b.instrs.length:Int))=False:=by simp;omega
  have c3:(3<(b.edges.length:Int))=False:=by simp;omega
  have c4:(160<((sm (f.blocks.take (i+1)):Nat):Int))=False:=by simp;omega
  unfold ja6 at xA eA
  rw[jah]
  unfold j4v qiv qiu qit
  simp(disch:=first|omega|rfl) only[go_sem,jae,eq_true hlt,hix,ja6,eA,xA,l1,l2,l3,c1,c2,c3,hadd,c4]
  refine qt9 oa hin b.instrs.length 0 oa okA (fun hj x2 x3 x5 o n g=>?_)
  simp(disch:=first|omega|rfl) only[go_sem,jae,hs]
  exact qi8 k d (i+1) oa o hQ
theorem qua {h:Hp} (ok:Ok h) {m:Nat×Nat} {f:Fc} (k:FcOk m f):WC F3 58 [.agg [jag jaz f.values,jag ja6 f.blocks]] h (fun v h'=>∃ d,jhr true h' d v=some (vi 0)):=by
 refine ja3 (no3 rfl rfl rfl) q65 rfl ?_
 unfold qtz
 have nb:=k.nb
 have nv:=k.nv
 obtain⟨hA,eA,okA,nA,xA,gA⟩:=jeb ok [jag jaz f.values,jag ja6 f.blocks] 32
 have l1:=jal (enc:=jaz) (l:=f.values)
 have l2:=jal (enc:=ja6) (l:=f.blocks)
 have c1:((f.blocks.length:Int)<1)=False:=by simp;omega
 have c2:(16<(f.blocks.length:Int))=False:=by simp;omega
 have c3:(160<(f.values.length:Int))=False:=by simp;omega
 simp(disch:=first|omega|rfl) only[go_sem,eA,xA,l1,l2,c1,c2,c3]
 unfold qiw
 simp(disch:=first|omega|rfl) only[go_sem,xA,l2]
 refine qi8 k f.blocks.length 0 oa okA (fun hj x2 x3 x4 x5 x6 x7 x8 x9 x10 x11 x13=>?_)
 simp(disch:=first|omega|rfl) only[go_sem]
 exact⟨1,rfl⟩
theorem jrt {vs:List Nat} (h:v<vs.length):vs[v]?=some (cl vs v):=by
 unfold cl;rw[f0o,f0b h];rfl
theorem qm0 {h:Hp} (ok:Ok h) {f:Fc} {x:Ms.Ins} {o u:Ms.Opd} (h1:x.ops[o.n]?=some u) (h2:u.kind=1) (h3:u.late=false) (h4:cl f.values u.value=cl f.values o.value) (h5:u.value<f.values.length) (h6:o.value<f.values.length) :
 WC F3 83 [.agg [jag jaz f.values,jag ja6 f.blocks],.agg [si x.op,jag jbe x.ops,jag jda x.spoils],.agg [si o.kind,si o.value,.bool o.late,si o.limit,si o.n]] h (fun v h'=>∃ d,jhr true h' d v=some (vi 0)):=by
 obtain⟨kd,vl,lt,lm,n⟩:=o
 obtain⟨ukd,uvl,ult,ulm,un⟩:=u
 simp only at h1 h2 h3 h4 h5 h6
 subst h2 h3
 refine ja3 (no3 rfl rfl rfl) qt1 rfl ?_
 unfold qb0
 obtain⟨hA,eA,okA,nA,xA,gA⟩:=jeb ok [jag jaz f.values,jag ja6 f.blocks] 32
 obtain⟨hB,eB,okB,nB,xB,gB⟩:=jeb okA [si x.op,jag jbe x.ops,jag jda x.spoils] 62
 obtain⟨hC,eC,okC,nC,xC,gC⟩:=jeb okB [si kd,si vl,.bool lt,si lm,si n] 80
 obtain⟨hD,eD,okD,nD,xD,gD⟩:=jci okC [.int .i64 0,.int .i64 0,.bool false,.int .i64 0,.int .i64 0] [si 1,si uvl,.bool false,si ulm,si un] 80
 have yA:=(gC _ oa).trans ((gB _ oa).trans xA)
 have yB:=(gC _ oa).trans xB
 have zA:=(gD _ oa).trans yA
 have zC:=(gD _ oa).trans xC
 have nb:hB.next=h.next+2:=oa
 have nc:hC.next=h.next+3:=oa
 rw[nA] at xB yB
 rw[nb] at xC zC
 rw[nc] at eD xD
 have hl:n<x.ops.length:=by
  rcases f0m n x.ops.length with h7 | h7
  .exact h7
  .rw [f0v h7] at h1;cases h1
 have l1:=jal (enc:=jbe) (l:=x.ops)
 have ix:=jai (enc:=jbe) (size:=5) h1 rfl
 have i1:=jai (enc:=jaz) (size:=1) (jrt h5) rfl
 have i2:=jai (enc:=jaz) (size:=1) (jrt h6) rfl
 have c1:((n:Int)<0)=False:=sc
 have c2:((x.ops.length:Int)<=(n:Int))=False:=by simp;omega
 have c3:(((1:Nat):Int)≠1)=False:=sc
 have c4:((cl f.values uvl:Int)≠(cl f.values vl:Int))=False:=by simp[h4]
 simp(disch:=first|omega|rfl) only[go_sem,eA,eB,eC,nA,nb,xA,yA,yB,xC,l1,ix,jbe,c1,c2]
 unfold j4z j4y j4x j4w
 simp(disch:=first|omega|rfl) only[go_sem,yA,yB,xC,ix,jbe,eD,nc,xD,zA,zC,i1,i2,jaz,c4]
 exact⟨1,rfl⟩
theorem jos {bm:Nat} {m:Nat×Nat} {l:List (Nat×Nat)} (hl:l.length<=10000) (hr:∀ r∈l,r.1<2/\r.2<g2 m r.1) (hord:∀ (i:Nat) (q r:Nat×Nat),l[i]?=some q->l[i+1]?=some r->q.1<r.1∨(q.1=r.1/\q.2<r.2)) {Q:Ex->St->Prop} :
 ∀ (d i:Nat) (_:i+d=l.length) {hi:Hp} (_:Ok hi) (_:bm<hi.next) (_:hi.get bm=some (.arr [si m.1,si m.2] 28)) {x3 x4 x5 x7 x9:AV}
  (hQ:∀ hj x3 x4 x5 x7 x9,Q (.exit 0) (.mk [x0,.s (jag jda l),x2,x3,x4,x5,.s (.ptr bm 0),x7,.s (jag jda l),x9,vi l.length,vi l.length] hj)),
  W F3 joo.loop (.mk [x0,.s (jag jda l),x2,x3,x4,x5,.s (.ptr bm 0),x7,.s (jag jda l),x9,vi l.length,vi i] hi) Q
 | 0,i,hd,hi,ok,hb,xb,x3,x4,x5,x7,x9,hQ=>by
  obtain rfl:i=l.length:=oa
  rw[jah]
  unfold joo
  simp(disch:=first|omega|rfl) only[go_sem,f0s]
  exact hQ hi ..
 | d+1,i,hd,hi,ok,hb,xb,x3,x4,x5,x7,x9,hQ=>by
  have hlt:(i:Int)<l.length:=oa
  obtain⟨⟨c,n⟩,hget⟩:∃ x,l[i]?=some x:=⟨_,f0b oa⟩
  have hx:=hr _ (f0c hget)
  have hix:=jai (enc:=jda) (size:=2) hget rfl
  have hs:(i:Int)+1=((i+1:Nat):Int):=oa
  obtain⟨hA,eA,okA,nA,xA,gA⟩:=jci ok [.int .i64 0,.int .i64 0] (jda (c,n)) 83
  have yb:=(gA _ hb).trans xb
  unfold jda at xA eA
  simp only at xA eA hx
  have c1:((c:Int)<0)=False:=sc
  have c2:(2<=(c:Int))=False:=by simp;omega
  have c3:((n:Int)<0)=False:=sc
  have hm:(c=0/\n<m.1)∨(c=1/\n<m.2):=by
   have:c=0∨c=1:=oa
   rcases this with rfl | rfl
   .exact .inl ⟨rfl,hx.2⟩
   .exact .inr ⟨rfl,hx.2⟩
  have hrd:∃ k,rdB (hA.get bm) c 1=some [si (k:Nat)]/\n<k:=by
   rw[yb]
   rcases hm with⟨rfl,h⟩ | ⟨rfl,h⟩
   .exact ⟨m.1,rfl,h⟩
   .exact ⟨m.2,rfl,h⟩
  obtain⟨k,hrd,hk⟩:=hrd
  have hxa:=jcz (n:=2) (size:=1) (b:=bm) (off:=0) (m:=c) oa
  rw[f0y,f19] at hxa
  have c4:((k:Int)<=(n:Int))=False:=by simp;omega
  rw[jah]
  unfold joo j41 j40
  simp(disch:=first|omega|rfl) only[go_sem,jae,eq_true hlt,hix,jda,eA,xA,c1,c2,c3,hxa,hrd,c4]
  have xA':=xA
  cases i with
  | zero =>
   unfold jwg jwf
   simp(disch:=first|omega|rfl) only[go_sem,jae,hix,jda,eA,xA,hs,f0s]
   exact jos hl hr hord d (0+1) oa okA oa yb hQ
  | succ j =>
   obtain⟨⟨pc,pn⟩,hp⟩:∃ x,l[j]?=some x:=⟨_,f0b oa⟩
   have hpx:=jai (enc:=jda) (size:=2) hp rfl
   have ho:=hord j _ _ hp hget
   simp only at ho
   have p0:(0<((j+1:Nat):Int))=True:=eq_true oa
   have p1:((j+1:Nat):Int) - 1=(j:Int):=oa
   have q1:((c:Int)<(pc:Int))=False:=by simp;omega
   unfold jwg jwf
   by_cases e:pc=c
   .subst e
    have q2:((pc:Int)=(pc:Int))=True:=sc
    have q3:((n:Int)<=(pn:Int))=False:=by simp;omega
    simp(disch:=first|omega|rfl) only[go_sem,jae,hix,hpx,jda,eA,xA,hs,p0,p1,q1,q2,q3]
    exact jos hl hr hord d (j+1+1) oa okA oa yb hQ
   .have q2:((pc:Int)=(c:Int))=False:=by simp;omega
    simp(disch:=first|omega|rfl) only[go_sem,jae,hix,hpx,jda,eA,xA,hs,p0,p1,q1,q2]
    exact jos hl hr hord d (j+1+1) oa okA oa yb hQ
theorem qm1 {h:Hp} (ok:Ok h) {m:Nat×Nat} {l:List (Nat×Nat)} (hl:l.length<=10000) (hr:∀ r∈l,r.1<2/\r.2<g2 m r.1) (hord:∀ (i:Nat) (q r:Nat×Nat),l[i]?=some q->l[i+1]?=some r->q.1<r.1∨(q.1=r.1/\q.2<r.2)) :
 WC F3 84 [.agg [si m.1,si m.2],.s (jag jda l)] h (fun v h'=>∃ d,jhr true h' d v=some (vi 0)):=by
 refine ja3 (no3 rfl rfl rfl) qt2 rfl ?_
 unfold qb1
 obtain⟨hA,eA,okA,nA,xA,gA⟩:=jeb ok [si m.1,si m.2] 28
 have l1:=jal (enc:=jda) (l:=l)
 simp(disch:=first|omega|rfl) only[go_sem,eA,xA,l1]
 refine jos hl hr hord l.length 0 oa okA oa xA (fun hj x3 x4 x5 x7 x9=>?_)
 simp(disch:=first|omega|rfl) only[go_sem]
 exact⟨1,rfl⟩
theorem jzv {h:Hp} (ok:Ok h) {kd vl lm n uvl ulm un:Nat} {lt ult:Bool} (ha:kd=1) (hb:ukd=1∨ukd=2):WC F3 109 [.agg [si kd,si vl,.bool lt,si lm,si n],.agg [si ukd,si uvl,.bool ult,si ulm,si un]] h (fun v h'=>v=vb (if ukd=1 then decide (vl≠uvl) else (lt || !ult))):=by
 refine ja3 (no3 rfl rfl rfl) qiy rfl ?_
 unfold j2s
 obtain⟨hA,eA,okA,nA,xA,gA⟩:=jeb ok [si kd,si vl,.bool lt,si lm,si n] 80
 obtain⟨hB,eB,okB,nB,xB,gB⟩:=jeb okA [si ukd,si uvl,.bool ult,si ulm,si un] 80
 have yA:=(gB _ oa).trans xA
 rw[nA] at xB
 have a1:((kd:Int)=1)=True:=eq_true oa
 have a2:((kd:Int)=2)=False:=eq_false oa
 by_cases e1:ukd=1
 .have b1:((ukd:Int)=1)=True:=eq_true oa
  simp(disch:=first|omega|rfl) only[go_sem,eA,nA,eB,xB,yA,a1,b1]
  rw[if_pos e1]
  by_cases e:vl=uvl
  .subst e;simp
  .have:¬ ((vl:Int)=(uvl:Int)):=oa
   simp[e,this]
 .have b1:((ukd:Int)=1)=False:=eq_false oa
  rw[if_neg e1]
  cases lt<;>cases ult<;>(simp(disch:=first|omega|rfl) only[go_sem,eA,nA,eB,xB,yA,a1,a2,b1];try rfl)
theorem qgt {h:Hp} (ok:Ok h) {kd vl lm n uvl ulm un:Nat} {lt ult:Bool} (ha:kd=1∨kd=2) (hb:ukd=1∨ukd=2):WC F3 109 [.agg [si kd,si vl,.bool lt,si lm,si n],.agg [si ukd,si uvl,.bool ult,si ulm,si un]] h (fun v h'=>∃ b d,jhr true h' d v=some (vb b)):=by
 rcases ha with ha | ha
 .exact WC.imp (jzv ok ha hb) (fun v h' e=>by subst e;exact⟨_,1,rfl⟩)
 .refine ja3 (no3 rfl rfl rfl) qiy rfl ?_
  unfold j2s
  obtain⟨hA,eA,okA,nA,xA,gA⟩:=jeb ok [si kd,si vl,.bool lt,si lm,si n] 80
  obtain⟨hB,eB,okB,nB,xB,gB⟩:=jeb okA [si ukd,si uvl,.bool ult,si ulm,si un] 80
  have yA:=(gB _ oa).trans xA
  rw[nA] at xB
  have a1:((kd:Int)=1)=False:=eq_false oa
  have a2:((kd:Int)=2)=True:=eq_true oa
  rcases hb with hb | hb
  .have b2:((ukd:Int)=2)=False:=eq_false oa
   simp(disch:=first|omega|rfl) only[go_sem,eA,nA,eB,xB,yA,a1,a2,b2]
   refine WC.imp (jzv okB hb (.inr ha)) (fun v h' e=>?_)
   subst e
   simp(disch:=first|omega|rfl) only[go_sem]
   exact⟨_,1,rfl⟩
  .have b2:((ukd:Int)=2)=True:=eq_true oa
   simp(disch:=first|omega|rfl) only[go_sem,eA,nA,eB,xB,yA,a1,a2,b2]
   exact⟨_,1,rfl⟩
def qw9:Option (Nat×Nat)->AV
 | none=>.tup [(true,[si 0,si 0]),(false,[.bool false])]
 | some r=>.tup [(true,[si r.1,si r.2]),(false,[.bool true])]
theorem j5d {hi:Hp} (ok:Ok hi) {f:Fc} {s:Ms.Opd} (h2:s.value<f.values.length) {bF:Nat} (p1:1<=bR) (xF:hi.get bF=some (.arr [jag jaz f.values,jag ja6 f.blocks] 32)) (xO:hi.get bO=some (.arr [si s.kind,si s.value,.bool s.late,si s.limit,si s.n] 80)) (xR:hi.get bR=some (.arr [si 0,si 0] 83)) :
 W F3 jwh (.mk [x0,x1,x2,vb false,.s (.ptr bF 0),.s (.ptr bR 0),x6,x7,x8,.s (.ptr bO 0)] hi) (jqh [(.cell 5 2 true),(.tmp 3)] (fun v h'=>∃ d,jhr true h' d v=some (qw9 (if s.limit=4 then some (cl f.values s.value,s.n) else none)))):=by
 have ix:=jai (enc:=jaz) (size:=1) (jrt h2) rfl
 unfold jwh
 by_cases e:s.limit=4
 .have c1:((s.limit:Int)≠4)=False:=by grind
  rw[if_pos e]
  simp(disch:=rfl) only[go_sem,xO,c1]
  unfold j43 j42
  simp(disch:=omega) only[go_sem,xF,xO,ix,jaz,xR]
  exact⟨1,rfl⟩
 .have c1:((s.limit:Int)≠4)=True:=by simp;omega
  rw[if_neg e]
  simp(disch:=first|omega|rfl) only[go_sem,xO,c1,xR]
  exact⟨1,rfl⟩
theorem qm2 {h:Hp} (ok:Ok h) {f:Fc} {x:Ms.Ins} {o:Ms.Opd} (h1:o.limit=5->∃ u,x.ops[o.n]?=some u/\u.value<f.values.length) (h2:o.value<f.values.length) :
 WC F3 107 [.agg [jag jaz f.values,jag ja6 f.blocks],.agg [si x.op,jag jbe x.ops,jag jda x.spoils],.agg [si o.kind,si o.value,.bool o.late,si o.limit,si o.n]] h (fun v h'=>∃ d,jhr true h' d v=some (qw9 (ji4 f.values x.ops o))):=by
 refine ja3 (no3 rfl rfl rfl) qt3 rfl ?_
 unfold qb2
 have hp:=ok.pos
 obtain⟨hA,eA,okA,nA,xA,gA⟩:=jeb ok [jag jaz f.values,jag ja6 f.blocks] 32
 obtain⟨hB,eB,okB,nB,xB,gB⟩:=jeb okA [si x.op,jag jbe x.ops,jag jda x.spoils] 62
 obtain⟨hC,eC,okC,nC,xC,gC⟩:=jeb okB [si o.kind,si o.value,.bool o.late,si o.limit,si o.n] 80
 obtain⟨hD,eD,okD,nD,xD,gD⟩:=jeb okC [.int .i64 0,.int .i64 0] 83
 have yA:=(gD _ oa).trans ((gC _ oa).trans ((gB _ oa).trans xA))
 have yB:=(gD _ oa).trans ((gC _ oa).trans xB)
 have yC:=(gD _ oa).trans xC
 have nb:hB.next=h.next+2:=oa
 have nc:hC.next=h.next+3:=oa
 rw[nA] at yB
 rw[nb] at yC
 rw[nc] at xD
 by_cases e:o.limit=5
 .obtain ⟨u,hu,hul⟩:=h1 e
  have c1:((o.limit:Int)=5)=True:=by simp;omega
  have ix:=jai (enc:=jbe) (size:=5) hu rfl
  have es:ji4 f.values x.ops o=if u.limit=4 then some (cl f.values u.value,u.n) else none:=by
   unfold ji4 qin
   rw[if_pos e,f0o,hu];rfl
  rw[es]
  obtain⟨hE,eE⟩:∃ hE,hD.put (h.next+2) (some (.arr [si u.kind,si u.value,.bool u.late,si u.limit,si u.n] 80))=hE:=⟨_,rfl⟩
  have okE:Ok hE:=by rw[←eE];exact jas okD
  have zA:hE.get h.next=some (.arr [jag jaz f.values,jag ja6 f.blocks] 32):=by rw[←eE,jak okD oa,if_neg oa];exact yA
  have zC:hE.get (h.next+2)=some (.arr [si u.kind,si u.value,.bool u.late,si u.limit,si u.n] 80):=by rw[←eE,jak okD oa,if_pos rfl]
  have zD:hE.get (h.next+3)=some (.arr [si 0,si 0] 83):=by rw[←eE,jak okD oa,if_neg oa];exact xD
  simp(disch:=first|omega|rfl) only[go_sem,eA,eB,eC,eD,nA,nb,nc,yA,yB,yC,c1,ix,jbe,eE]
  exact j5d okE hul oa zA zC zD
 .have c1:((o.limit:Int)=5)=False:=by simp;omega
  have es:ji4 f.values x.ops o=if o.limit=4 then some (cl f.values o.value,o.n) else none:=by
   unfold ji4 qin
   rw[if_neg e]
  rw[es]
  simp(disch:=first|omega|rfl) only[go_sem,eA,eB,eC,eD,nA,nb,nc,yA,yB,yC,c1]
  exact j5d okD h2 oa yA yC xD
theorem j5e {l:List (Nat×Nat)} (hr:r∉l) {br:Nat} {Q:Ex->St->Prop} :
 ∀ (d i:Nat) (_:i+d=l.length) {hi:Hp} (_:Ok hi) (_:l.length<=10000) (_:hi.get br=some (.arr [si r.1,si r.2] 83)) {x2 x3 x4 x6:AV}
  (hQ:∀ hj x2 x3 x4 x6,Q (.exit 0) (.mk [.s (jag jda l),x1,x2,x3,x4,.s (.ptr br 0),x6,vi l.length,vi l.length] hj)),
  W F3 joq.loop (.mk [.s (jag jda l),x1,x2,x3,x4,.s (.ptr br 0),x6,vi l.length,vi i] hi) Q
 | 0,i,hd,hi,ok,hl,xb,x2,x3,x4,x6,hQ=>by
  obtain rfl:i=l.length:=oa
  rw[jah]
  unfold joq
  simp(disch:=rfl) only[go_sem,f0s]
  grind
 | d+1,i,hd,hi,ok,hl,xb,x2,x3,x4,x6,hQ=>by
  have hlt:(i:Int)<l.length:=oa
  obtain⟨⟨c,n⟩,hget⟩:∃ x,l[i]?=some x:=⟨_,f0b oa⟩
  have hix:=jai (enc:=jda) (size:=2) hget rfl
  have hs:(i:Int)+1=((i+1:Nat):Int):=oa
  have hne:((r.1:Int)=(c:Int)/\(r.2:Int)=(n:Int))=False:=eq_false (fun h=>hr (by
   have e:r=(c,n):=by
    obtain⟨a,b⟩:=r
    simp only at h;simp;omega
   rw[e];exact f0c hget))
  have hne':((c:Int)=(r.1:Int)/\(n:Int)=(r.2:Int))=False:=by
   rw[show((c:Int)=(r.1:Int)/\(n:Int)=(r.2:Int))=((r.1:Int)=(c:Int)/\(r.2:Int)=(n:Int)) from propext ⟨fun h=>⟨h.1.symm,h.2.symm⟩,fun h=>⟨h.1.symm,h.2.symm⟩⟩]
   exact hne
  rw[jah]
  unfold joq j5b j5a
  simp(disch:=first|omega|rfl) only[go_sem,jae,eq_true hlt,hix,jda,xb,jtx,qw8,hne,hne',hs]
  exact j5e hr d (i+1) oa ok hl xb hQ
theorem qm3 {h:Hp} (ok:Ok h) {l:List (Nat×Nat)} (hr:r∉l) (hl:l.length<=10000):WC F3 119 [.s (jag jda l),.agg [si r.1,si r.2]] h (fun v h'=>v=vi (-1)):=by
 refine ja3 (no3 rfl rfl rfl) qt6 rfl ?_
 unfold qcu
 obtain⟨hA,eA,okA,nA,xA,gA⟩:=jeb ok [si r.1,si r.2] 83
 have l1:=jal (enc:=jda) (l:=l)
 simp(disch:=rfl) only[go_sem,eA,l1]
 refine j5e hr l.length 0 oa okA hl xA (fun hj x2 x3 x4 x6=>?_)
 simp(disch:=omega) only[go_sem]
theorem qm4 {h:Hp} (ok:Ok h) {l:List (Nat×Nat)} (hr:r∉l) (hl:l.length<=10000):WC F3 108 [.s (jag jda l),.agg [si r.1,si r.2]] h (fun v h'=>∃ d,jhr true h' d v=some (vb false)):=by
 refine ja3 (no3 rfl rfl rfl) q1v rfl ?_
 unfold qi6
 obtain⟨hA,eA,okA,nA,xA,gA⟩:=jeb ok [si r.1,si r.2] 83
 simp(disch:=rfl) only[go_sem,eA,xA]
 refine WC.imp (qm3 okA hr hl) (fun v h' e=>?_)
 subst e
 simp   only[go_sem]
 exact⟨1,rfl⟩
theorem qgu {l:List (Nat×Nat)} {c:Nat} {x0 x1 x2 x4 x5 x6 x7 x8 x9 x10 x11 x12 x20:AV} {Q:Ex->St->Prop} (hl:l.length<=10000) :
 ∀ (d i:Nat) (_:i+d=l.length) {hi:Hp} (_:Ok hi) {x14 x15 x17:AV}
  (hQ:∀ hj x14 x15 x17,Ok hj->hi.next<=hj.next->(∀ k,k<hi.next->hj.get k=hi.get k)->Q (.exit 0) (.mk [x0,x1,x2,vi c,x4,x5,x6,x7,x8,x9,x10,x11,x12,vi (l.countP (fun r=>decide (r.1=c))),x14,x15,.s (jag jda l),x17,vi l.length,vi l.length,x20] hj)),
  W F3 j44.loop (.mk [x0,x1,x2,vi c,x4,x5,x6,x7,x8,x9,x10,x11,x12,vi ((l.take i).countP (fun r=>decide (r.1=c))),x14,x15,.s (jag jda l),x17,vi l.length,vi i,x20] hi) Q
 | 0,i,hd,hi,ok,x14,x15,x17,hQ=>by
  obtain rfl:i=l.length:=oa
  rw[jah,f2z]
  unfold j44
  simp(disch:=first|omega|rfl) only[go_sem,f0s]
  grind
 | d+1,i,hd,hi,ok,x14,x15,x17,hQ=>by
  have hlt:(i:Int)<l.length:=oa
  have hil:i<l.length:=oa
  obtain⟨x,hget⟩:∃ x,l[i]?=some x:=⟨_,f0b hil⟩
  have hix:=jai (enc:=jda) (size:=2) hget rfl
  have hs:(i:Int)+1=((i+1:Nat):Int):=oa
  have hcnt:(l.take (i+1)).countP (fun r=>decide (r.1=c))=(l.take i).countP (fun r=>decide (r.1=c))+if x.1=c then 1 else 0:=by
   rw[f0b hil] at hget
   rw[List.take_succ_eq_append_getElem hil,List.countP_append,Option.some.inj hget,List.countP_singleton]
   by_cases h:x.1=c<;>simp[h]
  have hle:(l.take i).countP (fun r=>decide (r.1=c))<=10000:=f0x List.countP_le_length (by rw[f1x];omega)
  obtain⟨hA,eA,okA,nA,xA,gA⟩:=jci ok [.int .i64 0,.int .i64 0] (jda x) 83
  unfold jda at xA eA
  rw[jah]
  unfold j44 qi0
  by_cases e:x.1=c
  .have c1:((x.1:Int)=(c:Int))=True:=by simp;omega
   rw[if_pos e] at hcnt
   have hadd:(((l.take i).countP (fun r=>decide (r.1=c)):Nat):Int)+1=(((l.take (i+1)).countP (fun r=>decide (r.1=c)):Nat):Int):=oa
   simp(disch:=first|omega|rfl) only[go_sem,jae,eq_true hlt,hix,jda,eA,xA,c1,hadd,hs]
   exact qgu hl d (i+1) oa okA (fun hj x14 x15 x17 o n g=>hQ hj x14 x15 x17 o oa (fun k hk=>(g k oa).trans (gA k hk)))
  .have c1:((x.1:Int)=(c:Int))=False:=by simp;omega
   rw[if_neg e] at hcnt
   have hadd:(l.take i).countP (fun r=>decide (r.1=c))=(l.take (i+1)).countP (fun r=>decide (r.1=c)):=oa
   simp(disch:=first|omega|rfl) only[go_sem,jae,eq_true hlt,hix,jda,eA,xA,c1,hs]
   rw[hadd]
   exact qgu hl d (i+1) oa okA (fun hj x14 x15 x17 o n g=>hQ hj x14 x15 x17 o oa (fun k hk=>(g k oa).trans (gA k hk)))
theorem qi9 {f:Fc} {l:List Ms.Opd} {c n0 bF:Nat} {Q:Ex->St->Prop} (hl:l.length<=10000) (hn:n0<=10000) (hv:∀ o∈l,o.value<f.values.length) :
 ∀ (d i:Nat) (_:i+d=l.length) {hi:Hp} (_:Ok hi) (_:bF<hi.next) (_:hi.get bF=some (.arr [jag jaz f.values,jag ja6 f.blocks] 32)) {x6 x7 x10:AV}
  (hQ:∀ hj x6 x7 x10,Ok hj->hi.next<=hj.next->(∀ k,k<hi.next->hj.get k=hi.get k)->Q (.exit 2) (.mk [x0,x1,x2,vi c,x4,x5,x6,x7,.s (.ptr bF 0),.s (jag jbe l),x10,vi l.length,vi l.length,vi (n0+l.countP (jc1 f.values c):Nat),x14,x15,x16,x17,x18,x19,x20] hj)),
  W F3 jzt.loop (.mk [x0,x1,x2,vi c,x4,x5,x6,x7,.s (.ptr bF 0),.s (jag jbe l),x10,vi l.length,vi i,vi (n0+(l.take i).countP (jc1 f.values c):Nat),x14,x15,x16,x17,x18,x19,x20] hi) Q
 | 0,i,hd,hi,ok,hb,xF,x6,x7,x10,hQ=>by
  obtain rfl:i=l.length:=oa
  rw[jah,f2z]
  unfold jzt
  simp(disch:=first|omega|rfl) only[go_sem,f0s]
  grind
 | d+1,i,hd,hi,ok,hb,xF,x6,x7,x10,hQ=>by
  have hlt:(i:Int)<l.length:=oa
  have hil:i<l.length:=oa
  obtain⟨o,hget⟩:∃ x,l[i]?=some x:=⟨_,f0b hil⟩
  have hov:=hv o (f0c hget)
  have hix:=jai (enc:=jbe) (size:=5) hget rfl
  have iv:=jai (enc:=jaz) (size:=1) (jrt hov) rfl
  have hs:(i:Int)+1=((i+1:Nat):Int):=oa
  have hcnt:(l.take (i+1)).countP (jc1 f.values c)=(l.take i).countP (jc1 f.values c)+if jc1 f.values c o=true then 1 else 0:=by
   rw[f0b hil] at hget
   rw[List.take_succ_eq_append_getElem hil,List.countP_append,Option.some.inj hget,List.countP_singleton]
  have hle:(l.take i).countP (jc1 f.values c)<=10000:=f0x List.countP_le_length (by rw[f1x];omega)
  obtain⟨hA,eA,okA,nA,xA,gA⟩:=jci ok [.int .i64 0,.int .i64 0,.bool false,.int .i64 0,.int .i64 0] (jbe o) 80
  have yF:=(gA _ hb).trans xF
  have hrec:∀ {x6 x7 x10:AV},W F3 jzt.loop (.mk [x0,x1,x2,vi c,x4,x5,x6,x7,.s (.ptr bF 0),.s (jag jbe l),x10,vi l.length,vi (i+1:Nat),vi (n0+(l.take (i+1)).countP (jc1 f.values c):Nat),x14,x15,x16,x17,x18,x19,x20] hA) Q:=fun {x6 x7 x10} =>
   qi9 hl hn hv d (i+1) oa okA oa yF (fun hj x6 x7 x10 o n g=>hQ hj x6 x7 x10 o oa (fun k hk=>(g k oa).trans (gA k hk)))
  have hno:jc1 f.values c o=false->n0+(l.take i).countP (jc1 f.values c)=n0+(l.take (i+1)).countP (jc1 f.values c):=fun h=>by rw[hcnt,h];simp
  unfold jbe at xA eA
  rw[jah]
  unfold jzt qi1
  by_cases e1:cl f.values o.value=c
  .have c1:((cl f.values o.value:Int)=(c:Int))=True:=by simp;omega
   by_cases e2:o.limit=1
   .have c2:((o.limit:Int)≠1)=False:=by simp;omega
    simp(disch:=first|omega|rfl) only[go_sem,jae,eq_true hlt,hix,jbe,eA,xA,yF,iv,jaz,c1,c2,hs]
    rw[hno (by unfold jc1;simp[e2])]
    exact hrec
   .have c2:((o.limit:Int)≠1)=True:=by simp;omega
    by_cases e3:o.limit=3
    .have c3:((o.limit:Int)≠3)=False:=by simp;omega
     simp(disch:=first|omega|rfl) only[go_sem,jae,eq_true hlt,hix,jbe,eA,xA,yF,iv,jaz,c1,c2,c3,hs]
     rw[hno (by unfold jc1;simp[e3])]
     exact hrec
    .have c3:((o.limit:Int)≠3)=True:=by simp;omega
     have hadd:((n0+(l.take i).countP (jc1 f.values c):Nat):Int)+1=((n0+(l.take (i+1)).countP (jc1 f.values c):Nat):Int):=by
      rw[hcnt,if_pos (by unfold jc1;simp[e1,e2,e3])];omega
     simp(disch:=first|omega|rfl) only[go_sem,jae,eq_true hlt,hix,jbe,eA,xA,yF,iv,jaz,c1,c2,c3,hs,hadd]
     exact hrec
  .have c1:((cl f.values o.value:Int)=(c:Int))=False:=by simp;omega
   simp(disch:=first|omega|rfl) only[go_sem,jae,eq_true hlt,hix,jbe,eA,xA,yF,iv,jaz,c1,hs]
   rw[hno (by unfold jc1;simp[e1])]
   exact hrec
theorem qub {h:Hp} (ok:Ok h) {f:Fc} {m:Nat×Nat} {x:Ms.Ins} {c:Nat} (hc:c<2) (k:InsOk m f.values x):WC F3 86 [.agg [jag jaz f.values,jag ja6 f.blocks],.agg [si m.1,si m.2],.agg [si x.op,jag jbe x.ops,jag jda x.spoils],vi c] h (fun v h'=>∃ d,jhr true h' d v=some (vb true)):=by
 refine ja3 (no3 rfl rfl rfl) q66 rfl ?_
 unfold qt4
 have k1:=k.nops
 have k2:=k.nsp
 obtain⟨hA,eA,okA,nA,xA,gA⟩:=jeb ok [jag jaz f.values,jag ja6 f.blocks] 32
 obtain⟨hB,eB,okB,nB,xB,gB⟩:=jeb okA [si m.1,si m.2] 28
 obtain⟨hC,eC,okC,nC,xC,gC⟩:=jeb okB [si x.op,jag jbe x.ops,jag jda x.spoils] 62
 have yA:=(gC _ oa).trans ((gB _ oa).trans xA)
 have yB:=(gC _ oa).trans xB
 have nb:hB.next=h.next+2:=oa
 rw[nA] at yB
 rw[nb] at xC
 have l1:=jal (enc:=jda) (l:=x.spoils)
 have l2:=jal (enc:=jbe) (l:=x.ops)
 simp(disch:=first|omega|rfl) only[go_sem,eA,eB,eC,nA,nb,xC,l1]
 have h1:=@qgu x.spoils c
 refine qgu (l:=x.spoils) (c:=c) oa x.spoils.length 0 oa okC (fun hj x14 x15 x17 o n g=>?_)
 have zA:=(g _ oa).trans yA
 have zB:=(g _ oa).trans yB
 have zC:=(g _ oa).trans xC
 simp(disch:=first|omega|rfl) only[go_sem,zC,l2]
 have hcp:x.spoils.countP (fun r=>decide (r.1=c))<=10000:=f0x List.countP_le_length oa
 refine qi9 (f:=f) (l:=x.ops) (c:=c) (n0:=x.spoils.countP (fun r=>decide (r.1=c))) oa hcp (fun o ho=>(k.opd o ho).val) x.ops.length 0 oa o oa zA (fun hj x6 x7 x10 o n g=>?_)
 have wB:=(g _ oa).trans zB
 have hrd:∃ k,rdB (hj.get (h.next+1)) c 1=some [si (k:Nat)]/\g2 m c=k:=by
  rw[wB]
  have:c=0∨c=1:=oa
  rcases this with rfl | rfl
  .exact ⟨m.1,rfl,rfl⟩
  .exact ⟨m.2,rfl,rfl⟩
 obtain⟨r,hrd,hr⟩:=hrd
 have hxa:=jcz (n:=2) (size:=1) (b:=h.next+1) (off:=0) (m:=c) oa
 rw[f0y,f19] at hxa
 have hlt:=k.need c hc
 rw[hr] at hlt
 have c1:(((x.spoils.countP (fun r=>decide (r.1=c))+x.ops.countP (jc1 f.values c):Nat):Int)<(r:Int))=True:=by simp;omega
 simp(disch:=first|omega|rfl) only[go_sem,hxa,hrd,c1]
 exact⟨1,rfl⟩
theorem ja9:jsn []=true:=rfl
theorem jay {a:AV} {l:List AV}:jsn (a::l)=oif (qr5 a) (jsn l) false:=rfl
theorem jbj {l:List SV}:qr5 (.agg l)=qe1 l:=rfl
theorem jen {v:SV}:qr5 (.s v)=grd v:=rfl
theorem jbk:qe1 []=true:=rfl
theorem jbb {a:SV} {l:List SV}:qe1 (a::l)=oif (grd a) (qe1 l) false:=rfl
theorem jcg {k:IntKind} {n:Int}:grd (.int k n)=true:=rfl
theorem jcr {b:Bool}:grd (.bool b)=true:=rfl
def S4 (f:FuncId):Bool:=Nat.beq f 57||(Nat.beq f 58||(Nat.beq f 87||(Nat.beq f 83||(Nat.beq f 84||(Nat.beq f 109||(Nat.beq f 107||(Nat.beq f 86||Nat.beq f 108)))))))
def F4:Fns:=PX S4 F3
theorem q67 {A:Nat->Int}:Env Tryz.prog A tys F4:=jhm q63
theorem no4 {f:FuncId} (h1:S1 f=false) (h2:Nat.beq f jgu.f=false) (h3:S3 f=false) (h4:S4 f=false) {h:Hp}:jdg F4 f vs h=none:=(ja8 h4).trans (no3 h1 h2 h3)
section
variable {h:Hp} {f:Fc} {m:Nat×Nat} {Q:AV->Hp->Prop}
theorem qja (hv:v<f.values.length):jdg F4 87 [.agg [jag jaz f.values,jag ja6 f.blocks],vi v] h=some (vb true,h):=jbi rfl (by simp only[jay,ja9,jbj,jen,jbb,jbk,jbg,jcg,jcr,jbm,if_true]) (qmz jev hv)
theorem jjx (hv:v<f.values.length):WC F4 87 [.agg [jag jaz f.values,jag ja6 f.blocks],vi v] h Q=Q (vb true) h:=jam (qja hv)
end
theorem qm5 {h:Hp} (ok:Ok h) {f:Fc} {m:Nat×Nat} {o:Ms.Opd} (hc:∀ v,cl f.values v<2) (k:OpdOk m f.values o):WC F4 82 [.agg [jag jaz f.values,jag ja6 f.blocks],.agg [si m.1,si m.2],.agg [si o.kind,si o.value,.bool o.late,si o.limit,si o.n]] h (fun v h'=>∃ d,jhr true h' d v=some (vi 0)):=by
 refine ja3 (no4 rfl rfl rfl rfl) qt0 rfl ?_
 unfold qbz
 obtain⟨hA,eA,okA,nA,xA,gA⟩:=jeb ok [jag jaz f.values,jag ja6 f.blocks] 32
 obtain⟨hB,eB,okB,nB,xB,gB⟩:=jeb okA [si m.1,si m.2] 28
 obtain⟨hC,eC,okC,nC,xC,gC⟩:=jeb okB [si o.kind,si o.value,.bool o.late,si o.limit,si o.n] 80
 have yA:=(gC _ oa).trans ((gB _ oa).trans xA)
 have yB:=(gC _ oa).trans xB
 have nb:hB.next=h.next+2:=oa
 rw[nA] at yB
 rw[nb] at xC
 have k1:=k.kind
 have k2:=k.lim
 have k3:=k.val
 have c1:((o.limit:Int)<1)=False:=by simp;omega
 have c2:(5<(o.limit:Int))=False:=by simp;omega
 have kk:((o.kind:Int)≠1)=False∨(((o.kind:Int)≠1)=True/\((o.kind:Int)≠2)=False):=by
  rcases k1 with h | h
  .left;simp;omega
  .right;constructor
   .simp;omega
   .simp;omega
 by_cases e3:o.limit<=3
 .have c3:((o.limit:Int)<=3)=True:=by simp;omega
  have c4:((o.limit:Int)=4)=False:=by simp;omega
  have c5:((o.limit:Int)=5)=False:=by simp;omega
  have c6:((o.n:Int)≠0)=False:=by have:=k.zero e3;simp;omega
  rcases kk with d1 | ⟨d1,d2⟩
  .simp (disch:=first|omega|rfl) only[go_sem,eA,eB,eC,nA,nb,yA,yB,xC,d1,c1,c2]
   unfold ji0 jiz jiy
   simp(disch:=first|omega|rfl) only[go_sem,yA,yB,xC,c3,c4,c5,c6,jjx k3]
   exact⟨1,rfl⟩
  .simp (disch:=first|omega|rfl) only[go_sem,eA,eB,eC,nA,nb,yA,yB,xC,d1,d2,c1,c2]
   unfold ji0 jiz jiy
   simp(disch:=first|omega|rfl) only[go_sem,yA,yB,xC,c3,c4,c5,c6,jjx k3]
   exact⟨1,rfl⟩
 .have c3:((o.limit:Int)<=3)=False:=by simp;omega
  by_cases e4:o.limit=4
  .have c4:((o.limit:Int)=4)=True:=by simp;omega
   have c5:((o.limit:Int)=5)=False:=by simp;omega
   have hn:=k.fix e4
   have hcl:=hc o.value
   have iv:=jai (enc:=jaz) (size:=1) (jrt k3) rfl
   have hrd:∃ k,rdB (hC.get (h.next+1)) (cl f.values o.value) 1=some [si (k:Nat)]/\g2 m (cl f.values o.value)=k:=by
    rw[yB]
    have:cl f.values o.value=0∨cl f.values o.value=1:=oa
    rcases this with e | e
    .rw [e];exact⟨m.1,rfl,rfl⟩
    .rw [e];exact⟨m.2,rfl,rfl⟩
   obtain⟨r,hrd,hr⟩:=hrd
   have hxa:=jcz (n:=2) (size:=1) (b:=h.next+1) (off:=0) (m:=cl f.values o.value) oa
   rw[f0y,f19] at hxa
   rw[hr] at hn
   have c6:((r:Int)<=(o.n:Int))=False:=by simp;omega
   have c7:((o.n:Int)<0)=False:=sc
   rcases kk with d1 | ⟨d1,d2⟩
   .simp (disch:=first|omega|rfl) only[go_sem,eA,eB,eC,nA,nb,yA,yB,xC,d1,c1,c2]
    unfold ji0 jiz jiy
    simp(disch:=first|omega|rfl) only[go_sem,yA,xC,c3,c4,c5,c6,c7,iv,jaz,hxa,hrd,jjx k3]
    exact⟨1,rfl⟩
   .simp (disch:=first|omega|rfl) only[go_sem,eA,eB,eC,nA,nb,yA,yB,xC,d1,d2,c1,c2]
    unfold ji0 jiz jiy
    simp(disch:=first|omega|rfl) only[go_sem,yA,xC,c3,c4,c5,c6,c7,iv,jaz,hxa,hrd,jjx k3]
    exact⟨1,rfl⟩
  .have e5:o.limit=5:=oa
   have c4:((o.limit:Int)=4)=False:=by simp;omega
   have c5:((o.limit:Int)=5)=True:=by simp;omega
   obtain⟨hk,hlt⟩:=k.reu e5
   have d1:((o.kind:Int)≠1)=True:=by simp;omega
   have d2:((o.kind:Int)≠2)=False:=by simp;omega
   rw[hlt] at eC xC ⊢
   simp(disch:=first|omega|rfl) only[go_sem,eA,eB,eC,nA,nb,yA,yB,xC,d1,d2,c1,c2]
   unfold ji0 jiz jiy
   simp(disch:=first|omega|rfl) only[go_sem,yA,yB,xC,c3,c4,c5,d2,jjx k3]
   exact⟨1,rfl⟩
theorem j5f {f:Fc} {args:List Nat} {bF:Nat} (hl:args.length<=10000) (ha:∀ v∈args,v<f.values.length) (hp:∀ v∈ps,v<f.values.length) (hcl:ps.map (cl f.values)=args.map (cl f.values)) {Q:Ex->St->Prop} :
 ∀ (d i:Nat) (_:i+d=args.length) {hi:Hp} (_:Ok hi) (_:hi.get bF=some (.arr [jag jaz f.values,jag ja6 f.blocks] 32)) {x3 x4 x5 x6 x8:AV}
  (hQ:∀ hj x3 x4 x5 x6 x8,Q (.exit 0) (.mk [x0,x1,x2,x3,x4,x5,x6,.s (jag jaz args),x8,vi args.length,vi args.length,x11,.s (jag jaz ps),x13,.s (.ptr bF 0),x15] hj)),
  W F4 jop.loop (.mk [x0,x1,x2,x3,x4,x5,x6,.s (jag jaz args),x8,vi args.length,vi i,x11,.s (jag jaz ps),x13,.s (.ptr bF 0),x15] hi) Q
 | 0,i,hd,hi,ok,xF,x3,x4,x5,x6,x8,hQ=>by
  obtain rfl:i=args.length:=oa
  rw[jah]
  unfold jop
  simp(disch:=first|omega|rfl) only[go_sem,f0s]
  exact hQ hi ..
 | d+1,i,hd,hi,ok,xF,x3,x4,x5,x6,x8,hQ=>by
  have hlt:(i:Int)<args.length:=oa
  have hpl:ps.length=args.length:=by have:=congrArg List.length hcl;simpa using this
  obtain⟨v,hget⟩:∃ x,args[i]?=some x:=⟨_,f0b oa⟩
  obtain⟨u,hpet⟩:∃ x,ps[i]?=some x:=⟨_,f0b oa⟩
  have hv:=ha v (f0c hget)
  have hu:=hp u (f0c hpet)
  have huv:cl f.values u=cl f.values v:=by
   have:=congrArg (fun l=>l[i]?) hcl
   simp only[f1b,hget,hpet,f29,Option.some.injEq] at this
   exact this
  have hix:=jai (enc:=jaz) (size:=1) hget rfl
  have hipx:=jai (enc:=jaz) (size:=1) hpet rfl
  have iv:=jai (enc:=jaz) (size:=1) (jrt hv) rfl
  have iu:=jai (enc:=jaz) (size:=1) (jrt hu) rfl
  have hs:(i:Int)+1=((i+1:Nat):Int):=oa
  have c1:((cl f.values u:Int)≠(cl f.values v:Int))=False:=by simp;omega
  rw[jah]
  unfold jop j47 j46 j45
  simp(disch:=first|omega|rfl) only[go_sem,jae,eq_true hlt,hix,hipx,iv,iu,jaz,xF,jjx hv,jjx hu,c1,hs]
  exact j5f hl ha hp hcl d (i+1) oa ok xF hQ
theorem qm6 {h:Hp} (ok:Ok h) {f:Fc} {e:Ms.Edg} (k:jst f.values f.blocks e) (hl:e.args.length<=10000):WC F4 60 [.agg [jag jaz f.values,jag ja6 f.blocks],.agg [si e.block,jag jaz e.args]] h (fun v h'=>∃ d,jhr true h' d v=some (vi 0)):=by
 obtain⟨k1,k2,t,k3,k4,k5⟩:=k
 refine ja3 (no4 rfl rfl rfl rfl) qt5 rfl ?_
 unfold qce
 obtain⟨hA,eA,okA,nA,xA,gA⟩:=jeb ok [jag jaz f.values,jag ja6 f.blocks] 32
 obtain⟨hB,eB,okB,nB,xB,gB⟩:=jeb okA [si e.block,jag jaz e.args] 65
 have yA:=(gB _ oa).trans xA
 rw[nA] at xB
 have hlt:e.block<f.blocks.length:=by
  rcases f0m e.block f.blocks.length with h7 | h7
  .exact h7
  .rw [f0v h7] at k3;cases k3
 have hpl:t.params.length=e.args.length:=by have:=congrArg List.length k4;simpa using this
 have c1:((e.block:Int)<1)=False:=by simp;omega
 have c2:((f.blocks.length:Int)<=(e.block:Int))=False:=by simp;omega
 have c3:((e.args.length:Int)≠(t.params.length:Int))=False:=by simp;omega
 have ix:=jai (enc:=ja6) (size:=3) k3 rfl
 have l1:=jal (enc:=ja6) (l:=f.blocks)
 have l2:=jal (enc:=jaz) (l:=e.args)
 have l3:=jal (enc:=jaz) (l:=t.params)
 simp(disch:=first|omega|rfl) only[go_sem,eA,eB,nA,yA,xB,c1,c2,l1]
 unfold j49 j48
 simp(disch:=first|omega|rfl) only[go_sem,yA,xB,ix,ja6,c3,l2,l3]
 refine j5f hl k2 k5 k4 e.args.length 0 oa okB yA (fun hj x3 x4 x5 x6 x8=>?_)
 simp(disch:=first|omega|rfl) only[go_sem]
 exact⟨1,rfl⟩
section
variable {h:Hp} {f:Fc} {m:Nat×Nat} {Q:AV->Hp->Prop}
theorem qcx {op vl lm n kd:Nat} {lt:Bool} {ops:List Ms.Opd} {sp:List (Nat×Nat)} (h1:lm=5->∃ u,ops[n]?=some u/\u.value<f.values.length) (h2:vl<f.values.length):WC F4 107 [.agg [jag jaz f.values,jag ja6 f.blocks],.agg [si op,jag jbe ops,jag jda sp],.agg [si kd,si vl,.bool lt,si lm,si n]] h Q=Q (qw9 (ji4 f.values ops ⟨kd,vl,lt,lm,n⟩)) h :=
 jam (jbi rfl (by simp[jay,ja9,jbj,jbb,jbk,jbg,jcg,jcr,jbm]) (qm2 (x:=⟨op,ops,sp⟩) (o:=⟨kd,vl,lt,lm,n⟩) jev h1 h2))
theorem qm7 {l:List (Nat×Nat)} {a b:Nat} (hr:(a,b)∉l) (hl:l.length<=10000):WC F4 108 [.s (jag jda l),.agg [si a,si b]] h Q=Q (vb false) h :=
 jam (jbi rfl (by simp[jay,ja9,jbj,jen,jbb,jbk,jbg,jcg,jbm]) (qm4  jev hr hl))
theorem qgv {kd vl lm n uvl ulm un:Nat} {lt ult:Bool} (ha:kd=1∨kd=2) (hb:ukd=1∨ukd=2):∃ b,∀ h Q,WC F4 109 [.agg [si kd,si vl,.bool lt,si lm,si n],.agg [si ukd,si uvl,.bool ult,si ulm,si un]] h Q=Q (vb b) h:=by
 obtain⟨n1,v,h',h1,b,d,h2⟩:=qgt         jev ha hb
 exact⟨b,fun h Q=>jam (jbi rfl (by rfl) ⟨n1,v,h',h1,d,h2⟩)⟩
end
def jru (l:List Ms.Opd) (i:Nat):SV:=.lst ((l.map jbe).take i)
theorem qgw {l:List Ms.Opd} {i:Nat} (hi:i<l.length):qw7 5 (some (.s (jag jbe l))) (some (vi (i:Int)))=some (.s (jru l i)):=by
 cases l with
 | nil=>grind
 | cons a l =>
  show oif (Nat.ble i (jb3 ((a::l).map jbe))) (oif (Nat.ble 0 i) (oif (jsy 5 ((a::l).map jbe)) (ob (jbp (Nat.sub i 0) (jcb 0 ((a::l).map jbe))) fun r=>some (AV.s (.lst r))) none) none) none=_
  have h1:jb3 ((a::l).map jbe)=(a::l).length:=by rw[ja4,f09]
  have h2:Nat.ble i (jb3 ((a::l).map jbe))=true:=f23 oa
  have h3:jbp (Nat.sub i 0) (jcb 0 ((a::l).map jbe))=some (((a::l).map jbe).take i):=(ja2 _).2 ⟨by grind[jcc,f1w,f09],by rfl⟩
  rw[h2,h3]
  rfl
theorem qcy {l:List Ms.Opd} {i:Nat} (hi:i<l.length):jx6 (.s (jru l i))=some (vi i):=by
 unfold jru
 grind[jkt,f1x,f09,Nat.min_eq_left]
theorem qcz {l:List Ms.Opd} {i j:Nat} {o:Ms.Opd} (hj:j<i) (h:l[j]?=some o):ju3 5 (.s (jru l i)) (vi (j:Int))=some (.s (.cp (jbe o))):=by
 exact joh (by grind) rfl
def qm8:IC->IC
 | .seq a b=>a
 | c=>c
def qm9:IC->IC
 | .seq a b=>b
 | c=>c
def qgx (i j:Nat) (o p:Ms.Opd):Bool:=(decide (o.limit=5)&&decide (o.n=j))||(decide (p.limit=5)&&decide (p.n=i))
theorem qna {hi:Hp} {o p:Ms.Opd} {i j:Nat} (xO:hi.get bO=some (.arr [si o.kind,si o.value,.bool o.late,si o.limit,si o.n] 80)) (xP:hi.get bP=some (.arr [si p.kind,si p.value,.bool p.late,si p.limit,si p.n] 80))
 {x0 x1 x2 x3 x4 x5 x6 x8 x10 x11 x12 x13 x15 x16 x17 x18 x20 x21 x22 x23 x24 x25:AV} {K:Ex->St->Prop} (hK:K .normal (.mk [x0,x1,x2,x3,vb (qgx i j o p),x5,x6,vi j,x8,.s (.ptr bP 0),x10,x11,x12,x13,vi i,x15,x16,x17,x18,.s (.ptr bO 0),x20,x21,x22,x23,x24,x25] hi)) :
 W F4 (qm8 jhe) (.mk [x0,x1,x2,x3,x4,x5,x6,vi j,x8,.s (.ptr bP 0),x10,x11,x12,x13,vi i,x15,x16,x17,x18,.s (.ptr bO 0),x20,x21,x22,x23,x24,x25] hi) K:=by
 have right:∀ (c:Prop) [Decidable c],(decide (p.limit=5)&&decide (p.n=i))=decide c->True:=fun _ _ _=>trivial
 unfold jhe
 simp only[qm8]
 unfold qgx at hK
 by_cases e1:o.limit=5
 .have c1:((o.limit:Int)=5)=True:=by grind
  by_cases e2:o.n=j
  .have c2:((o.n:Int)=(j:Int))=True:=by simp;omega
   simp only[e1,e2,decide_true,f24,Bool.true_or] at hK
   simp(disch:=first|omega|rfl) only[go_sem,xO,xP,c1,c2]
   exact hK
  .have c2:((o.n:Int)=(j:Int))=False:=by simp;omega
   by_cases e3:p.limit=5
   .have c3:((p.limit:Int)=5)=True:=by simp;omega
    by_cases e4:p.n=i
    .have c4:((p.n:Int)=(i:Int))=True:=by simp;omega
     simp only[e1,e2,e3,e4,decide_true,decide_false,f24,f25,f2b] at hK
     simp(disch:=first|omega|rfl) only[go_sem,xO,xP,c1,c2,c3,c4]
     exact hK
    .have c4:((p.n:Int)=(i:Int))=False:=by simp;omega
     simp only[e1,e2,e3,e4,decide_true,decide_false,f24,f25,f2b] at hK
     simp(disch:=first|omega|rfl) only[go_sem,xO,xP,c1,c2,c3,c4]
     exact hK
   .have c3:((p.limit:Int)=5)=False:=by simp;omega
    simp only[e1,e2,e3,decide_true,decide_false,f24,f25,Bool.false_and,f2b] at hK
    simp(disch:=first|omega|rfl) only[go_sem,xO,xP,c1,c2,c3]
    exact hK
 .have c1:((o.limit:Int)=5)=False:=by simp;omega
  by_cases e3:p.limit=5
  .have c3:((p.limit:Int)=5)=True:=by simp;omega
   by_cases e4:p.n=i
   .have c4:((p.n:Int)=(i:Int))=True:=by simp;omega
    simp only[e1,e3,e4,decide_true,decide_false,f24,f25,Bool.false_and,f2b] at hK
    simp(disch:=first|omega|rfl) only[go_sem,xO,xP,c1,c3,c4]
    exact hK
   .have c4:((p.n:Int)=(i:Int))=False:=by simp;omega
    simp only[e1,e3,e4,decide_true,decide_false,f24,f25,Bool.false_and,f2b] at hK
    simp(disch:=first|omega|rfl) only[go_sem,xO,xP,c1,c3,c4]
    exact hK
  .have c3:((p.limit:Int)=5)=False:=by simp;omega
   simp only[e1,e3,decide_true,decide_false,f24,f25,Bool.false_and,f2b] at hK
   simp(disch:=first|omega|rfl) only[go_sem,xO,xP,c1,c3]
   exact hK
def qgy:Option (Nat×Nat)->List SV
 | none=>[si 0,si 0]
 | some r=>[si r.1,si r.2]
theorem j5g (x:Option (Nat×Nat)):∃ a b:Nat,qgy x=[si a,si b]:=by
 cases x with
 | none=>exact⟨0,0,rfl⟩
 | some r=>exact⟨r.1,r.2,rfl⟩
theorem qc0 {x:Option (Nat×Nat)} {a b:Nat} (h:qgy x=[si a,si b]):qw9 x=.tup [(true,[si a,si b]),(false,[.bool x.isSome])]:=by
 rw[←h];cases x<;>rfl
theorem qgz {hi:Hp} {o p:Ms.Opd} {fo fp:Option (Nat×Nat)} {same:Bool} {bQ:Nat} (ko:o.kind=1∨o.kind=2) (kp:p.kind=1∨p.kind=2) (hs:∀ r,fo=some r->fp=some r->same=true)
 (xO:hi.get bO=some (.arr [si o.kind,si o.value,.bool o.late,si o.limit,si o.n] 80)) (xP:hi.get bP=some (.arr [si p.kind,si p.value,.bool p.late,si p.limit,si p.n] 80))
 (xQ:hi.get bQ=some (.arr (qgy fp) 83)) (xR:hi.get bR=some (.arr (qgy fo) 83))
 {x0 x1 x2 x3 x7 x8 x10 x11 x12 x13 x14 x15 x16 x20 x21 x22 x23 x24 x25:AV} {K:Ex->St->Prop} (hK:K .normal (.mk [x0,x1,x2,vb false,vb same,.s (.ptr bQ 0),vb fp.isSome,x7,x8,.s (.ptr bP 0),x10,x11,x12,x13,x14,x15,x16,.s (.ptr bR 0),vb fo.isSome,.s (.ptr bO 0),x20,x21,x22,x23,x24,x25] hi)) :
 W F4 (qm9 jhe) (.mk [x0,x1,x2,x3,vb same,.s (.ptr bQ 0),vb fp.isSome,x7,x8,.s (.ptr bP 0),x10,x11,x12,x13,x14,x15,x16,.s (.ptr bR 0),vb fo.isSome,.s (.ptr bO 0),x20,x21,x22,x23,x24,x25] hi) K:=by
 unfold jhe
 simp only[qm9]
 cases fo with
 | none =>
  simp only[Option.isSome_none] at hK ⊢
  simp(disch:=rfl) only[go_sem]
  omega
 | some r =>
  cases fp with
  | none =>
   simp only[Option.isSome_none,Option.isSome_some] at hK ⊢
   simp(disch:=first|omega|rfl) only[go_sem]
   exact hK
  | some q =>
   simp only[Option.isSome_some] at hK ⊢
   unfold qgy at xQ xR
   simp only at xQ xR
   by_cases e:q=r
   .subst e
    have:=hs q rfl rfl
    subst this
    have c1:((q.1:Int)=(q.1:Int)/\(q.2:Int)=(q.2:Int))=True:=sc
    obtain⟨b,hb⟩:=qgv (vl:=o.value) (lm:=o.limit) (n:=o.n) (uvl:=p.value) (ulm:=p.limit) (un:=p.n) (lt:=o.late) (ult:=p.late) ko kp
    cases b with
    | true =>
     simp(disch:=first|omega|rfl) only[go_sem,xO,xP,xQ,xR,jtx,qw8,c1,hb]
     exact hK
    | false =>
     simp(disch:=first|omega|rfl) only[go_sem,xO,xP,xQ,xR,jtx,qw8,c1,hb]
     exact hK
   .have c1:((q.1:Int)=(r.1:Int)/\(q.2:Int)=(r.2:Int))=False:=eq_false (fun h=>e (by
     obtain⟨a,b⟩:=q
     obtain⟨c,d⟩:=r
     simp only at h;simp;omega))
    have c2:((r.1:Int)=(q.1:Int)/\(r.2:Int)=(q.2:Int))=False:=eq_false (fun h=>e (by
     obtain⟨a,b⟩:=q
     obtain⟨c,d⟩:=r
     simp only at h;simp;omega))
    simp(disch:=first|omega|rfl) only[go_sem,xO,xP,xQ,xR,jtx,qw8,c1,c2]
    exact hK
theorem qjb {f:Fc} {x:Ms.Ins} {m:Nat×Nat} (k:InsOk m f.values x) {i:Nat} {o:Ms.Opd} (hio:x.ops[i]?=some o) {bF:Nat} {Q:Ex->St->Prop} :
 ∀ (d j:Nat) (_:j+d=i) {hi:Hp} (_:Ok hi) (_:bF<hi.next/\bX<hi.next/\bO<hi.next/\bR<hi.next) (_:hi.get bF=some (.arr [jag jaz f.values,jag ja6 f.blocks] 32)) (_:hi.get bX=some (.arr [si x.op,jag jbe x.ops,jag jda x.spoils] 62))
  (_:hi.get bO=some (.arr [si o.kind,si o.value,.bool o.late,si o.limit,si o.n] 80)) (_:hi.get bR=some (.arr (qgy (ji4 f.values x.ops o)) 83)) {x3 x4 x5 x6 x7 x8 x9 x11:AV}
  (hQ:∀ hj x3 x4 x5 x6 x7 x8 x9 x11,Ok hj->hi.next<=hj.next->(∀ k,k<hi.next->hj.get k=hi.get k)->Q (.exit 2) (.mk [x0,x1,x2,x3,x4,x5,x6,x7,x8,x9,.s (jru x.ops i),x11,vi i,vi i,vi i,x15,x16,.s (.ptr bR 0),vb (ji4 f.values x.ops o).isSome,.s (.ptr bO 0),.s (.ptr bF 0),x21,x22,x23,x24,.s (.ptr bX 0)] hj)),
  W F4 jrq.loop (.mk [x0,x1,x2,x3,x4,x5,x6,x7,x8,x9,.s (jru x.ops i),x11,vi i,vi j,vi i,x15,x16,.s (.ptr bR 0),vb (ji4 f.values x.ops o).isSome,.s (.ptr bO 0),.s (.ptr bF 0),x21,x22,x23,x24,.s (.ptr bX 0)] hi) Q
 | 0,j,hd,hi,ok,hb,xF,xX,xO,xR,x3,x4,x5,x6,x7,x8,x9,x11,hQ=>by
  obtain rfl:j=i:=oa
  rw[jah]
  unfold jrq
  simp(disch:=first|omega|rfl) only[go_sem,f0s]
  grind
 | d+1,j,hd,hi,ok,hb,xF,xX,xO,xR,x3,x4,x5,x6,x7,x8,x9,x11,hQ=>by
  have hlt:(j:Int)<(i:Int):=oa
  have hil:i<x.ops.length:=by
   rcases f0m i x.ops.length with h7 | h7
   .exact h7
   .rw [f0v h7] at hio;cases hio
  have hno:=k.nops
  obtain⟨p,hget⟩:∃ y,x.ops[j]?=some y:=⟨_,f0b oa⟩
  have hpm:=f0c hget
  have ho:=k.opd o (f0c hio)
  have hp:=k.opd p hpm
  have hcl:=k.cla i j o p oa hio hget
  have hix:=qcz (l:=x.ops) (i:=i) (j:=j) oa hget
  have hs:(j:Int)+1=((j+1:Nat):Int):=oa
  obtain⟨hA,eA,okA,nA,xA,gA⟩:=jci ok [.int .i64 0,.int .i64 0,.bool false,.int .i64 0,.int .i64 0] (jbe p) 80
  have yF:=(gA _ hb.1).trans xF
  have yX:=(gA _ hb.2.1).trans xX
  have yO:=(gA _ hb.2.2.1).trans xO
  have yR:=(gA _ hb.2.2.2).trans xR
  obtain⟨hB,eB,okB,nB,xB,gB⟩:=jci okA [.int .i64 0,.int .i64 0] (qgy (ji4 f.values x.ops p)) 83
  have zF:=(gB _ oa).trans yF
  have zX:=(gB _ oa).trans yX
  have zO:=(gB _ oa).trans yO
  have zR:=(gB _ oa).trans yR
  have zA:=(gB _ oa).trans xA
  obtain⟨a,b,hab⟩:=j5g (ji4 f.values x.ops p)
  have wf:=fun {h:Hp} {Q:AV->Hp->Prop}=>(qcx (h:=h) (Q:=Q) (f:=f) (op:=x.op) (vl:=p.value) (lm:=p.limit) (n:=p.n) (kd:=p.kind) (lt:=p.late) (ops:=x.ops) (sp:=x.spoils) (fun e=>by
   obtain⟨u,h1,_⟩:=k.reu p hpm e
   exact⟨u,h1,(k.opd u (f0c h1)).val⟩) hp.val).trans (by rw[qc0 hab])
  unfold jbe at xA eA zA
  rw[nA] at eB xB
  rw[hab] at eB
  have rest:∀ (x3 x4 x8 x11:AV) (K:Ex->St->Prop),K .normal (.mk [x0,x1,x2,vb false,vb (qgx i j o p),.s (.ptr (hi.next+1) 0),vb (ji4 f.values x.ops p).isSome,vi j,x8,.s (.ptr hi.next 0),.s (jru x.ops i),x11,vi i,vi j,vi i,x15,x16,.s (.ptr bR 0),vb (ji4 f.values x.ops o).isSome,.s (.ptr bO 0),.s (.ptr bF 0),x21,x22,x23,x24,.s (.ptr bX 0)] hB) ->
   W F4 jhe (.mk [x0,x1,x2,x3,x4,.s (.ptr (hi.next+1) 0),vb (ji4 f.values x.ops p).isSome,vi j,x8,.s (.ptr hi.next 0),.s (jru x.ops i),x11,vi i,vi j,vi i,x15,x16,.s (.ptr bR 0),vb (ji4 f.values x.ops o).isSome,.s (.ptr bO 0),.s (.ptr bF 0),x21,x22,x23,x24,.s (.ptr bX 0)] hB) K:=fun x3 x4 x8 x11 K hK=>by
   rw[show jhe=.seq (qm8 jhe) (qm9 jhe) from rfl,j1m]
   refine qna zO zA ?_
   rw[jf6]
   refine qgz ho.kind hp.kind (fun r h1 h2=>?_) zO zA xB zR hK
   unfold qgx
   rcases hcl.2 r h1 h2 with⟨h3,h4⟩ | ⟨h3,h4⟩
   .simp [h3,h4]
   .simp [h3,h4]
  have fin:∀ (x3 x4 x8:AV),W F4 jrq.loop (.mk [x0,x1,x2,x3,x4,.s (.ptr (hi.next+1) 0),vb (ji4 f.values x.ops p).isSome,vi j,x8,.s (.ptr hi.next 0),.s (jru x.ops i),vb true,vi i,vi (j+1:Nat),vi i,x15,x16,.s (.ptr bR 0),vb (ji4 f.values x.ops o).isSome,.s (.ptr bO 0),.s (.ptr bF 0),x21,x22,x23,x24,.s (.ptr bX 0)] hB) Q:=fun x3 x4 x8 =>
   qjb k hio d (j+1) oa okB oa zF zX zO zR (fun hj x3 x4 x5 x6 x7 x8 x9 x11 o n g=>hQ hj x3 x4 x5 x6 x7 x8 x9 x11 o oa (fun k hk=>(g k oa).trans ((gB k oa).trans (gA k hk))))
  rw[jah]
  unfold jrq qb3
  by_cases e1:o.limit=5
  .have c1:((o.limit:Int)=5)=True:=by simp;omega
   by_cases e2:p.limit=5
   .have c2:((p.limit:Int)=5)=True:=by simp;omega
    have c3:((o.n:Int)=(p.n:Int))=False:=by have:=hcl.1 e1 e2;simp;omega
    simp(disch:=first|omega|rfl) only[go_sem,jae,eq_true hlt,hix,jbe,eA,xA,nA,yF,yX,wf,eB,zO,zA,c1,c2,c3]
    refine rest _ _ _ _ _ ?_
    simp(disch:=first|omega|rfl) only[go_sem,jae,hs]
    exact fin _ _ _
   .have c2:((p.limit:Int)=5)=False:=by simp;omega
    simp(disch:=first|omega|rfl) only[go_sem,jae,eq_true hlt,hix,jbe,eA,xA,nA,yF,yX,wf,eB,zO,zA,c1,c2]
    refine rest _ _ _ _ _ ?_
    simp(disch:=first|omega|rfl) only[go_sem,jae,hs]
    exact fin _ _ _
  .have c1:((o.limit:Int)=5)=False:=by simp;omega
   simp(disch:=first|omega|rfl) only[go_sem,jae,eq_true hlt,hix,jbe,eA,xA,nA,yF,yX,wf,eB,zO,zA,c1]
   refine rest _ _ _ _ _ ?_
   simp(disch:=first|omega|rfl) only[go_sem,jae,hs]
   exact fin _ _ _
theorem qc1 {f:Fc} {x:Ms.Ins} {m:Nat×Nat} (k:InsOk m f.values x) {bF:Nat} {Q:Ex->St->Prop} :
 ∀ (d i:Nat) (_:i+d=x.ops.length) {hi:Hp} (_:Ok hi) (_:bF<hi.next/\bX<hi.next) (_:hi.get bF=some (.arr [jag jaz f.values,jag ja6 f.blocks] 32)) (_:hi.get bX=some (.arr [si x.op,jag jbe x.ops,jag jda x.spoils] 62))
  {x3 x4 x5 x6 x7 x8 x9 x10 x11 x12 x13 x14 x15 x16 x17 x18 x19 x22:AV}
  (hQ:∀ hj x3 x4 x5 x6 x7 x8 x9 x10 x11 x12 x13 x14 x15 x16 x17 x18 x19 x22,Q (.exit 0) (.mk [x0,x1,x2,x3,x4,x5,x6,x7,x8,x9,x10,x11,x12,x13,x14,x15,x16,x17,x18,x19,.s (.ptr bF 0),.s (jag jbe x.ops),x22,vi x.ops.length,vi x.ops.length,.s (.ptr bX 0)] hj)),
  W F4 jrr.loop (.mk [x0,x1,x2,x3,x4,x5,x6,x7,x8,x9,x10,x11,x12,x13,x14,x15,x16,x17,x18,x19,.s (.ptr bF 0),.s (jag jbe x.ops),x22,vi x.ops.length,vi i,.s (.ptr bX 0)] hi) Q
 | 0,i,hd,hi,ok,hb,xF,xX,x3,x4,x5,x6,x7,x8,x9,x10,x11,x12,x13,x14,x15,x16,x17,x18,x19,x22,hQ=>by
  obtain rfl:i=x.ops.length:=oa
  rw[jah]
  unfold jrr
  simp(disch:=first|omega|rfl) only[go_sem,f0s]
  exact hQ hi ..
 | d+1,i,hd,hi,ok,hb,xF,xX,x3,x4,x5,x6,x7,x8,x9,x10,x11,x12,x13,x14,x15,x16,x17,x18,x19,x22,hQ=>by
  have hlt:(i:Int)<(x.ops.length:Int):=oa
  have hil:i<x.ops.length:=oa
  have hno:=k.nops
  have hns:=k.nsp
  obtain⟨o,hio⟩:∃ y,x.ops[i]?=some y:=⟨_,f0b hil⟩
  have hom:=f0c hio
  have ho:=k.opd o hom
  have hsp:=k.sp o hom
  have hix:=jai (enc:=jbe) (size:=5) hio rfl
  have hs:(i:Int)+1=((i+1:Nat):Int):=oa
  obtain⟨hA,eA,okA,nA,xA,gA⟩:=jci ok [.int .i64 0,.int .i64 0,.bool false,.int .i64 0,.int .i64 0] (jbe o) 80
  have yF:=(gA _ hb.1).trans xF
  have yX:=(gA _ hb.2).trans xX
  obtain⟨hB,eB,okB,nB,xB,gB⟩:=jci okA [.int .i64 0,.int .i64 0] (qgy (ji4 f.values x.ops o)) 83
  have zF:=(gB _ oa).trans yF
  have zX:=(gB _ oa).trans yX
  have zA:=(gB _ oa).trans xA
  obtain⟨a,b,hab⟩:=j5g (ji4 f.values x.ops o)
  have wf:=fun {h:Hp} {Q:AV->Hp->Prop}=>(qcx (h:=h) (Q:=Q) (f:=f) (op:=x.op) (vl:=o.value) (lm:=o.limit) (n:=o.n) (kd:=o.kind) (lt:=o.late) (ops:=x.ops) (sp:=x.spoils) (fun e=>by
   obtain⟨u,h1,_⟩:=k.reu o hom e
   exact⟨u,h1,(k.opd u (f0c h1)).val⟩) ho.val).trans (by rw[qc0 hab])
  have xB':=xB
  have nil:(ji4 f.values x.ops o).isSome=false∨((ji4 f.values x.ops o).isSome=true/\(a,b)∉x.spoils):=by
   cases e:ji4 f.values x.ops o with
   | none=>exact .inl rfl
   | some r =>
    right
    refine⟨rfl,?_⟩
    rw[e] at hab
    unfold qgy at hab
    simp only[List.cons.injEq,and_true] at hab
    have h1:r=(a,b):=by
     obtain⟨c,d⟩:=r
     have h1:=(SV.int.inj hab.1).2
     have h2:=(SV.int.inj hab.2).2
     simp only at h1 h2;simp;omega
    rw[←h1];exact hsp r e
  have sl:=qgw hil
  have ls:=qcy hil
  unfold jbe at xA eA zA
  rw[nA] at eB xB
  rw[hab] at eB
  have xB2:=xB
  rw[hab] at xB2
  have fin:∀ (x3 x4 x5 x6 x7 x8 x9 x11 x12 x13:AV) (hj:Hp),Ok hj->hB.next<=hj.next->(∀ k,k<hB.next->hj.get k=hB.get k)->∀ (x14 x15 x16 x17 x18 x19:AV),W F4 jrr.loop (.mk [x0,x1,x2,x3,x4,x5,x6,x7,x8,x9,.s (jru x.ops i),x11,x12,x13,x14,x15,x16,x17,x18,x19,.s (.ptr bF 0),.s (jag jbe x.ops),vb true,vi x.ops.length,vi (i+1:Nat),.s (.ptr bX 0)] hj) Q:=fun x3 x4 x5 x6 x7 x8 x9 x11 x12 x13 hj o n g x14 x15 x16 x17 x18 x19 =>
   qc1 k d (i+1) oa o ⟨oa,oa⟩ ((g _ oa).trans zF) ((g _ oa).trans zX) hQ
  have tail:∀ (x3 x4 x5 x6 x7 x8 x9 x10 x11 x12 x13 x15 x16:AV) (K:Ex->St->Prop),(∀ hj x3 x4 x5 x6 x7 x8 x9 x11,Ok hj->hB.next<=hj.next->(∀ k,k<hB.next->hj.get k=hB.get k)->K .normal (.mk [x0,x1,x2,x3,x4,x5,x6,x7,x8,x9,.s (jru x.ops i),x11,vi i,vi i,vi i,x15,x16,.s (.ptr (hi.next+1) 0),vb (ji4 f.values x.ops o).isSome,.s (.ptr hi.next 0),.s (.ptr bF 0),.s (jag jbe x.ops),vb true,vi x.ops.length,vi i,.s (.ptr bX 0)] hj)) ->
   W F4 j2t (.mk [x0,x1,x2,x3,x4,x5,x6,x7,x8,x9,x10,x11,x12,x13,vi i,x15,x16,.s (.ptr (hi.next+1) 0),vb (ji4 f.values x.ops o).isSome,.s (.ptr hi.next 0),.s (.ptr bF 0),.s (jag jbe x.ops),vb true,vi x.ops.length,vi i,.s (.ptr bX 0)] hB) K:=fun x3 x4 x5 x6 x7 x8 x9 x10 x11 x12 x13 x15 x16 K hK=>by
   unfold j2t
   simp(disch:=first|omega|rfl) only[go_sem,zX,jid,sl,ls]
   refine qjb k hio i 0 oa okB ⟨oa,oa,oa,oa⟩ zF zX zA xB (fun hj x3 x4 x5 x6 x7 x8 x9 x11 o n g=>?_)
   simp(disch:=first|omega|rfl) only[go_sem]
   exact hK hj x3 x4 x5 x6 x7 x8 x9 x11 o n g
  generalize (ji4 f.values x.ops o).isSome=has at *
  have kk:((o.kind:Int)=2)=False∨((o.kind:Int)=2)=True:=by
   rcases ho.kind with h | h
   .left;simp;omega
   .right;simp;omega
  rw[jah]
  unfold jrr qb5 qb4
  rcases nil with hn | ⟨hn,hm⟩
  .subst hn
   simp(disch:=first|omega|rfl) only[go_sem,jae,eq_true hlt,hix,jbe,eA,xA,nA,yF,yX,wf,eB,zA]
   refine tail _ _ _ _ _ _ _ _ _ _ _ _ _ _ (fun hj x3 x4 x5 x6 x7 x8 x9 x11 o n g=>?_)
   simp(disch:=first|omega|rfl) only[go_sem,jae,hs]
   exact fin _ _ _ _ _ _ _ _ _ _ hj o n g _ _ _ _ _ _
  .subst hn
   have wc:=fun {h:Hp} {Q:AV->Hp->Prop}=>qm7 (h:=h) (Q:=Q) (l:=x.spoils) (a:=a) (b:=b) hm oa
   cases hlate:o.late with
   | true =>
    rw[hlate] at xA eA zA wf
    rcases kk with c1 | c1
    .simp (disch:=first|omega|rfl) only[go_sem,jae,eq_true hlt,hix,jbe,hlate,eA,xA,nA,yF,yX,wf,eB,zA,zX,xB2,wc,c1]
     refine tail _ _ _ _ _ _ _ _ _ _ _ _ _ _ (fun hj x3 x4 x5 x6 x7 x8 x9 x11 o n g=>?_)
     simp(disch:=first|omega|rfl) only[go_sem,jae,hs]
     exact fin _ _ _ _ _ _ _ _ _ _ hj o n g _ _ _ _ _ _
    .simp (disch:=first|omega|rfl) only[go_sem,jae,eq_true hlt,hix,jbe,hlate,eA,xA,nA,yF,yX,wf,eB,zA,zX,xB2,wc,c1]
     refine tail _ _ _ _ _ _ _ _ _ _ _ _ _ _ (fun hj x3 x4 x5 x6 x7 x8 x9 x11 o n g=>?_)
     simp(disch:=first|omega|rfl) only[go_sem,jae,hs]
     exact fin _ _ _ _ _ _ _ _ _ _ hj o n g _ _ _ _ _ _
   | false =>
    rw[hlate] at xA eA zA wf
    rcases kk with c1 | c1
    .simp (disch:=first|omega|rfl) only[go_sem,jae,eq_true hlt,hix,jbe,hlate,eA,xA,nA,yF,yX,wf,eB,zA,zX,xB2,wc,c1]
     refine tail _ _ _ _ _ _ _ _ _ _ _ _ _ _ (fun hj x3 x4 x5 x6 x7 x8 x9 x11 o n g=>?_)
     simp(disch:=first|omega|rfl) only[go_sem,jae,hs]
     exact fin _ _ _ _ _ _ _ _ _ _ hj o n g _ _ _ _ _ _
    .simp (disch:=first|omega|rfl) only[go_sem,jae,eq_true hlt,hix,jbe,hlate,eA,xA,nA,yF,yX,wf,eB,zA,zX,xB2,wc,c1]
     refine tail _ _ _ _ _ _ _ _ _ _ _ _ _ _ (fun hj x3 x4 x5 x6 x7 x8 x9 x11 o n g=>?_)
     simp(disch:=first|omega|rfl) only[go_sem,jae,hs]
     exact fin _ _ _ _ _ _ _ _ _ _ hj o n g _ _ _ _ _ _
theorem qnb {h:Hp} (ok:Ok h) {f:Fc} {x:Ms.Ins} {m:Nat×Nat} (k:InsOk m f.values x):WC F4 85 [.agg [jag jaz f.values,jag ja6 f.blocks],.agg [si x.op,jag jbe x.ops,jag jda x.spoils]] h (fun v h'=>∃ d,jhr true h' d v=some (vb false)):=by
 refine ja3 (no4 rfl rfl rfl rfl) q1q rfl ?_
 unfold qiz
 obtain⟨hA,eA,okA,nA,xA,gA⟩:=jeb ok [jag jaz f.values,jag ja6 f.blocks] 32
 obtain⟨hB,eB,okB,nB,xB,gB⟩:=jeb okA [si x.op,jag jbe x.ops,jag jda x.spoils] 62
 have yA:=(gB _ oa).trans xA
 rw[nA] at xB
 have l1:=jal (enc:=jbe) (l:=x.ops)
 simp(disch:=first|omega|rfl) only[go_sem,eA,eB,nA,xB,l1]
 refine qc1 k x.ops.length 0 oa okB ⟨oa,oa⟩ yA xB (fun hj x3 x4 x5 x6 x7 x8 x9 x10 x11 x12 x13 x14 x15 x16 x17 x18 x19 x22=>?_)
 simp(disch:=first|omega|rfl) only[go_sem]
 exact⟨1,rfl⟩
def S5 (f:FuncId):Bool:=Nat.beq f 82||(Nat.beq f 60||Nat.beq f 85)
def F5:Fns:=PX S5 F4
theorem q68 {A:Nat->Int}:Env Tryz.prog A tys F5:=jhm q67
theorem no5 {f:FuncId} (h1:S1 f=false) (h2:Nat.beq f jgu.f=false) (h3:S3 f=false) (h4:S4 f=false) (h5:S5 f=false) {h:Hp}:jdg F5 f vs h=none:=(ja8 h5).trans (no4 h1 h2 h3 h4)
section
variable {h:Hp} {f:Fc} {m:Nat×Nat} {Q:AV->Hp->Prop}
theorem qnc {kd vl lm n:Nat} {lt:Bool} (hc:∀ v,cl f.values v<2) (k:OpdOk m f.values ⟨kd,vl,lt,lm,n⟩):WC F5 82 [.agg [jag jaz f.values,jag ja6 f.blocks],.agg [si m.1,si m.2],.agg [si kd,si vl,.bool lt,si lm,si n]] h Q=Q (vi 0) h :=
 jam (jbi rfl (by simp only[jay,ja9,jbj,jen,jbb,jbk,jbg,jcg,jcr,jbm,if_true]) (qm5 jev hc k))
theorem qnd {op kd vl lm n:Nat} {lt:Bool} {ops:List Ms.Opd} {sp:List (Nat×Nat)} {u:Ms.Opd} (h1:ops[n]?=some u) (h2:u.kind=1) (h3:u.late=false) (h4:cl f.values u.value=cl f.values vl) (h5:u.value<f.values.length) (h6:vl<f.values.length) :
 WC F5 83 [.agg [jag jaz f.values,jag ja6 f.blocks],.agg [si op,jag jbe ops,jag jda sp],.agg [si kd,si vl,.bool lt,si lm,si n]] h Q=Q (vi 0) h :=
 jam ((ja8 rfl).trans (jbi rfl (by simp only[jay,ja9,jbj,jen,jbb,jbk,jbg,jcg,jcr,jbm,if_true]) (qm0 (x:=⟨op,ops,sp⟩) (o:=⟨kd,vl,lt,lm,n⟩) jev h1 h2 h3 h4 h5 h6)))
theorem qne {l:List (Nat×Nat)} (hl:l.length<=10000) (hr:∀ r∈l,r.1<2/\r.2<g2 m r.1) (hord:∀ (i:Nat) (q r:Nat×Nat),l[i]?=some q->l[i+1]?=some r->q.1<r.1∨(q.1=r.1/\q.2<r.2)) :
 WC F5 84 [.agg [si m.1,si m.2],.s (jag jda l)] h Q=Q (vi 0) h :=
 jam ((ja8 rfl).trans (jbi rfl (by simp only[jay,ja9,jbj,jen,jbb,jbk,jbg,jcg,jcr,jbm,if_true]) (qm1 jev hl hr hord)))
theorem qnf {op:Nat} {ops:List Ms.Opd} {sp:List (Nat×Nat)} (k:InsOk m f.values ⟨op,ops,sp⟩):WC F5 85 [.agg [jag jaz f.values,jag ja6 f.blocks],.agg [si op,jag jbe ops,jag jda sp]] h Q=Q (vb false) h :=
 jam (jbi rfl (by simp only[jay,ja9,jbj,jen,jbb,jbk,jbg,jcg,jcr,jbm,if_true]) (qnb jev k))
theorem qjc {op c:Nat} {ops:List Ms.Opd} {sp:List (Nat×Nat)} (hc:c<2) (k:InsOk m f.values ⟨op,ops,sp⟩):WC F5 86 [.agg [jag jaz f.values,jag ja6 f.blocks],.agg [si m.1,si m.2],.agg [si op,jag jbe ops,jag jda sp],vi c] h Q=Q (vb true) h :=
 jam ((ja8 rfl).trans (jbi rfl (by simp only[jay,ja9,jbj,jen,jbb,jbk,jbg,jcg,jcr,jbm,if_true]) (qub jev hc k)))
end
theorem qjd {f:Fc} {m:Nat×Nat} {l:List Ms.Opd} (hl:l.length<=10000) (hc:∀ v,cl f.values v<2) (hp:∀ o∈l,OpdOk m f.values o) {bF bM:Nat} {Q:Ex->St->Prop} :
 ∀ (d i:Nat) (_:i+d=l.length) {hi:Hp} (_:Ok hi) (_:bF<hi.next/\bM<hi.next) (_:hi.get bF=some (.arr [jag jaz f.values,jag ja6 f.blocks] 32)) (_:hi.get bM=some (.arr [si m.1,si m.2] 28)) {x19 x20 x21 x25:AV}
  (hQ:∀ hj x19 x20 x21 x25,Ok hj->hi.next<=hj.next->(∀ k,k<hi.next->hj.get k=hi.get k)->Q (.exit 0) (.mk [x0,x1,x2,x3,x4,x5,x6,x7,x8,x9,x10,x11,x12,x13,x14,x15,x16,x17,x18,x19,x20,x21,.s (.ptr bM 0),.s (.ptr bF 0),.s (jag jbe l),x25,vi l.length,vi l.length,x28,.s (.ptr bX 0)] hj)),
  W F5 jwi.loop (.mk [x0,x1,x2,x3,x4,x5,x6,x7,x8,x9,x10,x11,x12,x13,x14,x15,x16,x17,x18,x19,x20,x21,.s (.ptr bM 0),.s (.ptr bF 0),.s (jag jbe l),x25,vi l.length,vi i,x28,.s (.ptr bX 0)] hi) Q
 | 0,i,hd,hi,ok,hb,xF,xM,x19,x20,x21,x25,hQ=>by
  obtain rfl:i=l.length:=oa
  rw[jah]
  unfold jwi
  simp(disch:=first|omega|rfl) only[go_sem,f0s]
  exact hQ hi _ _ _ _ ok (f0g _) (fun _ _=>rfl)
 | d+1,i,hd,hi,ok,hb,xF,xM,x19,x20,x21,x25,hQ=>by
  have hlt:(i:Int)<(l.length:Int):=oa
  obtain⟨o,hio⟩:∃ y,l[i]?=some y:=⟨_,f0b oa⟩
  have ho:=hp o (f0c hio)
  have hix:=jai (enc:=jbe) (size:=5) hio rfl
  have hs:(i:Int)+1=((i+1:Nat):Int):=oa
  obtain⟨hA,eA,okA,nA,xA,gA⟩:=jci ok [.int .i64 0,.int .i64 0,.bool false,.int .i64 0,.int .i64 0] (jbe o) 80
  have yF:=(gA _ hb.1).trans xF
  have yM:=(gA _ hb.2).trans xM
  unfold jbe at xA eA
  rw[jah]
  unfold jwi qb6
  simp(disch:=first|omega|rfl) only[go_sem,jae,eq_true hlt,hix,jbe,eA,xA,yF,yM,qnc hc ho,hs]
  exact qjd hl hc hp d (i+1) oa okA ⟨oa,oa⟩ yF yM (fun hj x19 x20 x21 x25 o n g=>hQ hj x19 x20 x21 x25 o oa (fun k hk=>(g k oa).trans (gA k hk)))
theorem qje {f:Fc} {m:Nat×Nat} {x:Ms.Ins} (k:InsOk m f.values x) {bF:Nat} {Q:Ex->St->Prop} :
 ∀ (d i:Nat) (_:i+d=x.ops.length) {hi:Hp} (_:Ok hi) (_:bF<hi.next/\bX<hi.next) (_:hi.get bF=some (.arr [jag jaz f.values,jag ja6 f.blocks] 32)) (_:hi.get bX=some (.arr [si x.op,jag jbe x.ops,jag jda x.spoils] 62)) {x11 x12 x13 x14 x16:AV}
  (hQ:∀ hj x11 x12 x13 x14 x16,Ok hj->hi.next<=hj.next->(∀ k,k<hi.next->hj.get k=hi.get k)->Q (.exit 2) (.mk [x0,x1,x2,x3,x4,x5,x6,x7,x8,x9,x10,x11,x12,x13,x14,.s (jag jbe x.ops),x16,vi x.ops.length,vi x.ops.length,x19,x20,x21,x22,.s (.ptr bF 0),x24,x25,x26,x27,x28,.s (.ptr bX 0)] hj)),
  W F5 jrs.loop (.mk [x0,x1,x2,x3,x4,x5,x6,x7,x8,x9,x10,x11,x12,x13,x14,.s (jag jbe x.ops),x16,vi x.ops.length,vi i,x19,x20,x21,x22,.s (.ptr bF 0),x24,x25,x26,x27,x28,.s (.ptr bX 0)] hi) Q
 | 0,i,hd,hi,ok,hb,xF,xX,x11,x12,x13,x14,x16,hQ=>by
  obtain rfl:i=x.ops.length:=oa
  rw[jah]
  unfold jrs
  simp(disch:=first|omega|rfl) only[go_sem,f0s]
  exact hQ hi _ _ _ _ _ ok (f0g _) (fun _ _=>rfl)
 | d+1,i,hd,hi,ok,hb,xF,xX,x11,x12,x13,x14,x16,hQ=>by
  have hlt:(i:Int)<(x.ops.length:Int):=oa
  have hno:=k.nops
  obtain⟨o,hio⟩:∃ y,x.ops[i]?=some y:=⟨_,f0b oa⟩
  have hom:=f0c hio
  have ho:=k.opd o hom
  have hix:=jai (enc:=jbe) (size:=5) hio rfl
  have hs:(i:Int)+1=((i+1:Nat):Int):=oa
  obtain⟨hA,eA,okA,nA,xA,gA⟩:=jci ok [.int .i64 0,.int .i64 0,.bool false,.int .i64 0,.int .i64 0] (jbe o) 80
  have yF:=(gA _ hb.1).trans xF
  have yX:=(gA _ hb.2).trans xX
  have fin:∀ (x11 x12 x13 x14:AV),W F5 jrs.loop (.mk [x0,x1,x2,x3,x4,x5,x6,x7,x8,x9,x10,x11,x12,x13,x14,.s (jag jbe x.ops),vb true,vi x.ops.length,vi (i+1:Nat),x19,x20,x21,x22,.s (.ptr bF 0),x24,x25,x26,x27,x28,.s (.ptr bX 0)] hA) Q:=fun x11 x12 x13 x14 =>
   qje k d (i+1) oa okA ⟨oa,oa⟩ yF yX (fun hj x11 x12 x13 x14 x16 o n g=>hQ hj x11 x12 x13 x14 x16 o oa (fun k hk=>(g k oa).trans (gA k hk)))
  unfold jbe at xA eA
  rw[jah]
  unfold jrs qb8
  by_cases e:o.limit=5
  .have c1:((o.limit:Int)≠5)=False:=by simp;omega
   obtain⟨u,h1,h2,h3,h4⟩:=k.reu o hom e
   have h5:=(k.opd u (f0c h1)).val
   simp(disch:=first|omega|rfl) only[go_sem,jae,eq_true hlt,hix,jbe,eA,xA,c1]
   unfold qb7
   simp(disch:=first|omega|rfl) only[go_sem,jae,xA,yF,yX,qnd h1 h2 h3 h4 h5 ho.val,hs]
   exact fin _ _ _ _
  .have c1:((o.limit:Int)≠5)=True:=by simp;omega
   simp(disch:=first|omega|rfl) only[go_sem,jae,eq_true hlt,hix,jbe,eA,xA,c1,hs]
   exact fin _ _ _ _
theorem qng {h:Hp} (ok:Ok h) {f:Fc} {m:Nat×Nat} {x:Ms.Ins} (hc:∀ v,cl f.values v<2) (k:InsOk m f.values x):WC F5 59 [.agg [jag jaz f.values,jag ja6 f.blocks],.agg [si m.1,si m.2],.agg [si x.op,jag jbe x.ops,jag jda x.spoils]] h (fun v h'=>∃ d,jhr true h' d v=some (vi 0)):=by
 refine ja3 (no5 rfl rfl rfl rfl rfl) q1r rfl ?_
 unfold qi2
 have hno:=k.nops
 have hns:=k.nsp
 have hop:=k.op
 obtain⟨hA,eA,okA,nA,xA,gA⟩:=jeb ok [jag jaz f.values,jag ja6 f.blocks] 32
 obtain⟨hB,eB,okB,nB,xB,gB⟩:=jeb okA [si m.1,si m.2] 28
 obtain⟨hC,eC,okC,nC,xC,gC⟩:=jeb okB [si x.op,jag jbe x.ops,jag jda x.spoils] 62
 have yA:=(gC _ oa).trans ((gB _ oa).trans xA)
 have yB:=(gC _ oa).trans xB
 have nb:hB.next=h.next+2:=oa
 rw[nA] at yB
 rw[nb] at xC
 have c1:((x.op:Int)<0)=False:=sc
 have c2:(255<(x.op:Int))=False:=by simp;omega
 have l1:=jal (enc:=jbe) (l:=x.ops)
 have k0:InsOk m f.values ⟨x.op,x.ops,x.spoils⟩:=k
 simp(disch:=first|omega|rfl) only[go_sem,eA,eB,eC,nA,nb,xC,c1,c2]
 unfold qcd
 simp(disch:=first|omega|rfl) only[go_sem,xC,l1]
 refine qjd oa hc k.opd x.ops.length 0 oa okC ⟨oa,oa⟩ yA yB (fun hj x19 x20 x21 x25 o n g=>?_)
 have zA:=(g _ oa).trans yA
 have zB:=(g _ oa).trans yB
 have zC:=(g _ oa).trans xC
 simp(disch:=first|omega|rfl) only[go_sem,zC,l1]
 refine qje k x.ops.length 0 oa o ⟨oa,oa⟩ zA zC (fun hj x11 x12 x13 x14 x16 o n g=>?_)
 have vA:=(g _ oa).trans zA
 have vB:=(g _ oa).trans zB
 have vC:=(g _ oa).trans zC
 simp(disch:=first|omega|rfl) only[go_sem,vB,vC,qne (m:=m) (l:=x.spoils) oa k.spo k.ord]
 unfold qcc
 simp(disch:=first|omega|rfl) only[go_sem,vA,vC,qnf k0]
 unfold qcb
 simp(disch:=first|omega|rfl) only[go_sem]
 rw[jah]
 unfold qca qb9
 have w0:=fun {h:Hp} {Q:AV->Hp->Prop}=>qjc (h:=h) (Q:=Q) (c:=0) oa k0
 have w1:=fun {h:Hp} {Q:AV->Hp->Prop}=>qjc (h:=h) (Q:=Q) (c:=1) oa k0
 simp only[f14,f2e] at w0 w1
 simp(disch:=first|omega|rfl) only[go_sem,jae,vA,vB,vC,w0]
 rw[jah]
 simp(disch:=first|omega|rfl) only[go_sem,jae,vA,vB,vC,w1]
 rw[jah]
 simp(disch:=first|omega|rfl) only[go_sem]
 exact⟨1,rfl⟩
theorem qjf (x:SV):∀ n,rep [x] n=List.replicate n x
 | 0=>rfl
 | n+1=>by
  have h:rep [x] (n+1)=jgk [x] (rep [x] n):=rfl
  rw[h,jc3,qjf x n];rfl
theorem jrv {α:Type} {c:α}:∀ {l:List α} {i:Nat},i<l.length->jbn i [c] l=some (l.set i c)
 | [],i,h=>by simp at h
 | a::l,0,h=>by
  cases l<;>rfl
 | a::l,i+1,h=>by
  rw[jdv,jrv (by simpa using h)];rfl
def bls (s:List Bool):List SV:=s.map SV.bool
theorem qnh {h:Hp} {f:Fc} {Q:AV->Hp->Prop} (hv:v<f.values.length):WC F5 87 [.agg [jag jaz f.values,jag ja6 f.blocks],vi v] h Q=Q (vb true) h:=jam ((ja8 rfl).trans (qja hv))
theorem qni {hi:Hp} (ok:Ok hi) {f:Fc} {bF bM bA:Nat} {s:List Bool} (hv:v<f.values.length) (hs:s.length=f.values.length) (hp:1<=bA) (xF:hi.get bF=some (.arr [jag jaz f.values,jag ja6 f.blocks] 32)) (xM:hi.get bM=some (.arr [.slice bA 0 f.values.length f.values.length true 1] 130)) (xA:hi.get bA=some (.arr (bls s) 4)) :
 WC F5 88 [vi v,.s (.ptr bF 0),.s (.ptr bM 0)] hi (fun u h'=>(s[v]?=some true->u=vi 7/\h'=hi)/\(s[v]?=some false->u=vi 0/\Ok h'/\h'.next=hi.next/\h'.get bA=some (.arr (bls (s.set v true)) 4)/\∀ k,k≠bA->h'.get k=hi.get k)):=by
 refine ja3 (no5 rfl rfl rfl rfl rfl) q1t rfl ?_
 unfold qi4
 have hvs:v<s.length:=oa
 obtain⟨b,hb⟩:∃ b,s[v]?=some b:=⟨_,f0b hvs⟩
 have hcell:(bls s)[v]?=some (.bool b):=by unfold bls;rw[f1b,hb];rfl
 have hrd:rdB (hi.get bA) v 1=some [.bool b]:=by rw[xA];exact j4p hcell
 have hix:=jbf (size:=1) (b:=bA) (off:=0) (len:=f.values.length) (mc:=f.values.length) (sz:=1) (ex:=true) (m:=v) hv
 rw[f0y,f19] at hix
 simp(disch:=first|omega|rfl) only[go_sem,xF,qnh hv]
 unfold qcm
 cases b with
 | true =>
  simp(disch:=first|omega|rfl) only[go_sem,xM,hix,hrd,hb]
  exact⟨fun _=>trivial,fun h=>by cases h⟩
 | false =>
  have hset:wrB hi bA (hi.get bA) v [.bool true]=some (hi.put bA (some (.arr (bls (s.set v true)) 4))):=by
   rw[xA,jm4,jrv (by unfold bls;rw[f09];exact hvs)]
   show some (hi.put bA (some (.arr ((bls s).set v (.bool true)) 4)))=_
   unfold bls
   rw[List.map_set]
  simp(disch:=first|omega|rfl) only[go_sem,xM,hix,hrd]
  unfold qcl
  simp(disch:=first|omega|rfl) only[go_sem,xM,hix,hset]
  exact⟨fun h=>(by rw[hb] at h;cases h),fun _=>⟨jas ok,fun k hk=>by rw[if_neg hk]⟩⟩
def jl2:List Bool->List Nat->Option (List Bool)
 | s,[]=>some s
 | s,v::l=>if s[v]?=some true then none else jl2 (s.set v true) l
theorem jwr:∀ (a b:List Nat) (s:List Bool),jl2 s (a++b)=(jl2 s a).bind (fun t=>jl2 t b)
 | [],b,s=>rfl
 | v::a,b,s=>by
  show(if s[v]?=some true then none else jl2 (s.set v true) (a++b))=(if s[v]?=some true then none else jl2 (s.set v true) a).bind _
  split
  .rfl
  .exact jwr a b _
structure OnI (hi:Hp) (f:Fc) (bF bM bA:Nat) (s:List Bool):Prop where
 ok:Ok hi
 hs:s.length=f.values.length
 lt:bF<hi.next/\bM<hi.next/\bA<hi.next
 pos:1<=bA/\bF≠bA/\bM≠bA
 xF:hi.get bF=some (.arr [jag jaz f.values,jag ja6 f.blocks] 32)
 xM:hi.get bM=some (.arr [.slice bA 0 f.values.length f.values.length true 1] 130)
 xA:hi.get bA=some (.arr (bls s) 4)
section
variable {hi hj:Hp} {f:Fc} {bF bM bA:Nat} {s:List Bool}
theorem OnI.keep (k:OnI hi f bF bM bA s) (ok:Ok hj) (hn:hi.next<=hj.next) (g:∀ n,n<hi.next->hj.get n=hi.get n):OnI hj f bF bM bA s :=
 ⟨ok,k.hs,⟨f0p k.lt.1 hn,f0p k.lt.2.1 hn,f0p k.lt.2.2 hn⟩,k.pos,(g _ k.lt.1).trans k.xF,(g _ k.lt.2.1).trans k.xM,(g _ k.lt.2.2).trans k.xA⟩
theorem OnI.tell (k:OnI hi f bF bM bA s) (hv:v<f.values.length):WC F5 88 [vi v,.s (.ptr bF 0),.s (.ptr bM 0)] hi (fun u h'=>(s[v]?=some true/\u=vi 7)∨(s[v]?≠some true/\u=vi 0/\OnI h' f bF bM bA (s.set v true)/\h'.next=hi.next/\∀ n,n≠bA->h'.get n=hi.get n)) :=
 WC.imp (qni k.ok hv k.hs k.pos.1 k.xF k.xM k.xA) (fun u h' ⟨h1,h2⟩=>by
  obtain⟨b,hb⟩:∃ b,s[v]?=some b:=⟨_,f0b (by rw[k.hs];exact hv)⟩
  cases b with
  | true=>exact .inl ⟨hb,(h1 hb).1⟩
  | false =>
   obtain⟨e,o,n,g,kp⟩:=h2 hb
   exact .inr ⟨by rw[hb];simp,e,⟨o,by rw[f3b];exact k.hs,by rw[n];exact k.lt,k.pos,(kp _ k.pos.2.1).trans k.xF,(kp _ k.pos.2.2).trans k.xM,g⟩,n,kp⟩)
end
def clo (bF bM:Nat):AV:=.s (.func 88 [(bF,0),(bM,0)])
theorem qjg {f:Fc} {bF bM bA:Nat} (hl:ps.length<=10000) (hp:∀ v∈ps,v<f.values.length) {Q:Ex->St->Prop} :
 ∀ (rest done:List Nat) (_:done++rest=ps) {s:List Bool} {hi:Hp} (_:OnI hi f bF bM bA s) {x16 x17 x18 x21:AV}
  (hQ:∀ t,jl2 s rest=some t->∀ hj x16 x17 x18 x21,OnI hj f bF bM bA t->hi.next<=hj.next->(∀ n,n<hi.next->n≠bA->hj.get n=hi.get n)->Q (.exit 2) (.mk [x0,x1,x2,x3,x4,x5,x6,x7,x8,x9,x10,x11,x12,x13,x14,x15,x16,x17,x18,clo bF bM,.s (jag jaz ps),x21,vi ps.length,vi ps.length,x24,x25,x26,x27,x28,.s (.ptr bM 0),.s (.ptr bF 0)] hj))
  (hN:jl2 s rest=none->∀ hj x2 x3 x4 x5 x6 x7 x8 x9 x10 x11 x12 x13 x14 x15 x16 x17 x18 x19 x20 x21 x22 x23 x24 x25 x26 x27 x28 x29 x30,Q .ret (.mk [x0,vi 7,x2,x3,x4,x5,x6,x7,x8,x9,x10,x11,x12,x13,x14,x15,x16,x17,x18,x19,x20,x21,x22,x23,x24,x25,x26,x27,x28,x29,x30] hj)),
  W F5 jwj.loop (.mk [x0,x1,x2,x3,x4,x5,x6,x7,x8,x9,x10,x11,x12,x13,x14,x15,x16,x17,x18,clo bF bM,.s (jag jaz ps),x21,vi ps.length,vi done.length,x24,x25,x26,x27,x28,.s (.ptr bM 0),.s (.ptr bF 0)] hi) Q
 | [],done,hdn,s,hi,I,x16,x17,x18,x21,hQ,hN=>by
  rw[f08] at hdn
  subst hdn
  rw[jah]
  unfold jwj
  simp(disch:=first|omega|rfl) only[go_sem,f0s]
  exact hQ s rfl hi _ _ _ _ I (f0g _) (fun _ _ _=>rfl)
 | v::rest,done,hdn,s,hi,I,x16,x17,x18,x21,hQ,hN=>by
  have hlt1:done.length<ps.length:=by rw[←hdn];simp
  have hlt:(done.length:Int)<ps.length:=oa
  have hget:ps[done.length]?=some v:=by rw[←hdn];simp
  have hv:=hp v (f0c hget)
  have hix:=jai (enc:=jaz) (size:=1) hget rfl
  have hdn':(done++[v])++rest=ps:=by rw[←hdn];simp
  have hs:(done.length:Int)+1=(((done++[v]).length:Nat):Int):=sc
  rw[jah]
  unfold jwj qcf clo
  simp(disch:=first|omega|rfl) only[go_sem,jae,eq_true hlt,hix,jaz]
  rw[j33 rfl]
  simp(disch:=first|omega|rfl) only[go_sem]
  refine WC.imp (I.tell hv) ?_
  rintro u h' (⟨h1,rfl⟩ | ⟨h1,rfl,I',n',k'⟩)
  .simp (disch:=first|omega|rfl) only[go_sem]
   exact hN (by unfold jl2;rw[if_pos h1]) ..
  .simp (disch:=first|omega|rfl) only[go_sem,jae,hs]
   exact qjg hl hp rest (done++[v]) hdn' I' (fun t ht hj x16 x17 x18 x21 J n g=>hQ t (by unfold jl2;rw[if_neg h1];exact ht) hj x16 x17 x18 x21 J oa (fun m hm hne=>(g m oa hne).trans (k' m hne))) (fun ht=>hN (by unfold jl2;rw[if_neg h1];exact ht))
def dfO (l:List Ms.Opd):List Nat:=(l.filter (fun o=>o.kind=2)).map (·.value)
theorem jjy {a b:List Nat} {s t:List Bool} (h:jl2 s a=some t):jl2 s (a++b)=jl2 t b:=by rw[jwr,h];rfl
theorem j2v {a b:List Nat} {s:List Bool} (h:jl2 s a=none):jl2 s (a++b)=none:=by rw[jwr,h];rfl
theorem qc2 {f:Fc} {l:List Ms.Opd} {bF bM bA:Nat} (hl:l.length<=10000) (hp:∀ o∈l,o.value<f.values.length) {Q:Ex->St->Prop} :
 ∀ (rest done:List Ms.Opd) (_:done++rest=l) {s:List Bool} {hi:Hp} (_:OnI hi f bF bM bA s) {x3 x4 x5 x6 x8:AV}
  (hQ:∀ t,jl2 s (dfO rest)=some t->∀ hj x3 x4 x5 x6 x8,OnI hj f bF bM bA t->hi.next<=hj.next->(∀ n,n<hi.next->n≠bA->hj.get n=hi.get n)->Q (.exit 6) (.mk [x0,x1,x2,x3,x4,x5,x6,.s (jag jbe l),x8,vi l.length,vi l.length,x11,x12,x13,x14,x15,x16,x17,x18,clo bF bM,x20,x21,x22,x23,x24,x25,x26,x27,x28,.s (.ptr bM 0),.s (.ptr bF 0)] hj))
  (hN:jl2 s (dfO rest)=none->∀ hj x2 x3 x4 x5 x6 x7 x8 x9 x10 x11 x12 x13 x14 x15 x16 x17 x18 x19 x20 x21 x22 x23 x24 x25 x26 x27 x28 x29 x30,Q .ret (.mk [x0,vi 7,x2,x3,x4,x5,x6,x7,x8,x9,x10,x11,x12,x13,x14,x15,x16,x17,x18,x19,x20,x21,x22,x23,x24,x25,x26,x27,x28,x29,x30] hj)),
  W F5 jwk.loop (.mk [x0,x1,x2,x3,x4,x5,x6,.s (jag jbe l),x8,vi l.length,vi done.length,x11,x12,x13,x14,x15,x16,x17,x18,clo bF bM,x20,x21,x22,x23,x24,x25,x26,x27,x28,.s (.ptr bM 0),.s (.ptr bF 0)] hi) Q
 | [],done,hdn,s,hi,I,x3,x4,x5,x6,x8,hQ,hN=>by
  rw[f08] at hdn
  subst hdn
  rw[jah]
  unfold jwk
  simp(disch:=first|omega|rfl) only[go_sem,f0s]
  exact hQ s rfl hi _ _ _ _ _ I (f0g _) (fun _ _ _=>rfl)
 | o::rest,done,hdn,s,hi,I,x3,x4,x5,x6,x8,hQ,hN=>by
  have hlt1:done.length<l.length:=by rw[←hdn];simp
  have hlt:(done.length:Int)<l.length:=oa
  have hget:l[done.length]?=some o:=by rw[←hdn];simp
  have hv:=hp o (f0c hget)
  have hix:=jai (enc:=jbe) (size:=5) hget rfl
  have hdn':(done++[o])++rest=l:=by rw[←hdn];simp
  have hs:(done.length:Int)+1=(((done++[o]).length:Nat):Int):=sc
  have ok:=I.ok
  obtain⟨hA,eA,okA,nA,xA,gA⟩:=jci ok [.int .i64 0,.int .i64 0,.bool false,.int .i64 0,.int .i64 0] (jbe o) 80
  have IA:=I.keep okA oa gA
  unfold jbe at xA eA
  rw[jah]
  unfold jwk qch clo
  by_cases e:o.kind=2
  .have c1:((o.kind:Int)≠2)=False:=by simp;omega
   have ed:dfO (o::rest)=o.value::dfO rest:=by unfold dfO;rw[List.filter_cons_of_pos (by simpa using e)];rfl
   simp(disch:=first|omega|rfl) only[go_sem,jae,eq_true hlt,hix,jbe,eA,xA,c1]
   unfold qcg
   simp(disch:=first|omega|rfl) only[go_sem,xA]
   rw[j33 rfl]
   simp(disch:=first|omega|rfl) only[go_sem]
   refine WC.imp (IA.tell hv) ?_
   rintro u h' (⟨h1,rfl⟩ | ⟨h1,rfl,I',n',k'⟩)
   .simp (disch:=first|omega|rfl) only[go_sem]
    exact hN (by rw[ed];unfold jl2;rw[if_pos h1]) ..
   .simp (disch:=first|omega|rfl) only[go_sem,jae,hs]
    exact qc2 hl hp rest (done++[o]) hdn' I' (fun t ht hj x3 x4 x5 x6 x8 J n g=>hQ t (by rw[ed];unfold jl2;rw[if_neg h1];exact ht) hj x3 x4 x5 x6 x8 J oa (fun m hm hne=>(g m oa hne).trans ((k' m hne).trans (gA m hm)))) (fun ht=>hN (by rw[ed];unfold jl2;rw[if_neg h1];exact ht))
  .have c1:((o.kind:Int)≠2)=True:=by simp;omega
   have ed:dfO (o::rest)=dfO rest:=by unfold dfO;rw[List.filter_cons_of_neg (by simpa using e)]
   simp(disch:=first|omega|rfl) only[go_sem,jae,eq_true hlt,hix,jbe,eA,xA,c1,hs]
   exact qc2 hl hp rest (done++[o]) hdn' IA (fun t ht hj x3 x4 x5 x6 x8 J n g=>hQ t (by rw[ed];exact ht) hj x3 x4 x5 x6 x8 J oa (fun m hm hne=>(g m oa hne).trans (gA m hm))) (fun ht=>hN (by rw[ed];exact ht))
theorem qjh {f:Fc} {l:List Ms.Ins} {bF bM bA:Nat} (hl:l.length<=10000) (hp:∀ x∈l,x.ops.length<=6/\∀ o∈x.ops,o.value<f.values.length) {Q:Ex->St->Prop} :
 ∀ (rest done:List Ms.Ins) (_:done++rest=l) {s:List Bool} {hi:Hp} (_:OnI hi f bF bM bA s) {x3 x4 x5 x6 x7 x8 x9 x10 x11 x13:AV}
  (hQ:∀ t,jl2 s (rest.map jdd).flatten=some t->∀ hj x3 x4 x5 x6 x7 x8 x9 x10 x11 x13,OnI hj f bF bM bA t->hi.next<=hj.next->(∀ n,n<hi.next->n≠bA->hj.get n=hi.get n)->Q (.exit 4) (.mk [x0,x1,x2,x3,x4,x5,x6,x7,x8,x9,x10,x11,.s (jag jeh l),x13,vi l.length,vi l.length,x16,x17,x18,clo bF bM,x20,x21,x22,x23,x24,x25,x26,x27,x28,.s (.ptr bM 0),.s (.ptr bF 0)] hj))
  (hN:jl2 s (rest.map jdd).flatten=none->∀ hj x2 x3 x4 x5 x6 x7 x8 x9 x10 x11 x12 x13 x14 x15 x16 x17 x18 x19 x20 x21 x22 x23 x24 x25 x26 x27 x28 x29 x30,Q .ret (.mk [x0,vi 7,x2,x3,x4,x5,x6,x7,x8,x9,x10,x11,x12,x13,x14,x15,x16,x17,x18,x19,x20,x21,x22,x23,x24,x25,x26,x27,x28,x29,x30] hj)),
  W F5 jwl.loop (.mk [x0,x1,x2,x3,x4,x5,x6,x7,x8,x9,x10,x11,.s (jag jeh l),x13,vi l.length,vi done.length,x16,x17,x18,clo bF bM,x20,x21,x22,x23,x24,x25,x26,x27,x28,.s (.ptr bM 0),.s (.ptr bF 0)] hi) Q
 | [],done,hdn,s,hi,I,x3,x4,x5,x6,x7,x8,x9,x10,x11,x13,hQ,hN=>by
  rw[f08] at hdn
  subst hdn
  rw[jah]
  unfold jwl
  simp(disch:=first|omega|rfl) only[go_sem,f0s]
  exact hQ s rfl hi _ _ _ _ _ _ _ _ _ _ I (f0g _) (fun _ _ _=>rfl)
 | x::rest,done,hdn,s,hi,I,x3,x4,x5,x6,x7,x8,x9,x10,x11,x13,hQ,hN=>by
  have hlt1:done.length<l.length:=by rw[←hdn];simp
  have hlt:(done.length:Int)<l.length:=oa
  have hget:l[done.length]?=some x:=by rw[←hdn];simp
  have hv:=hp x (f0c hget)
  have hix:=jai (enc:=jeh) (size:=3) hget rfl
  have hdn':(done++[x])++rest=l:=by rw[←hdn];simp
  have hs:(done.length:Int)+1=(((done++[x]).length:Nat):Int):=sc
  have ok:=I.ok
  obtain⟨hA,eA,okA,nA,xA,gA⟩:=jci ok [.int .i64 0,.nilSlice,.nilSlice] (jeh x) 62
  have IA:=I.keep okA oa gA
  have l1:=jal (enc:=jbe) (l:=x.ops)
  have ed:((x::rest).map jdd).flatten=dfO x.ops++(rest.map jdd).flatten:=rfl
  unfold jeh at xA eA
  rw[jah]
  unfold jwl qci
  simp(disch:=first|omega|rfl) only[go_sem,jae,eq_true hlt,hix,jeh,eA,xA,l1]
  refine qc2 oa hv.2 x.ops [] rfl IA (fun t ht hj x3 x4 x5 x6 x8 J n g=>?_) (fun ht=>?_)
  .simp (disch:=first|omega|rfl) only[go_sem,jae,hs]
   exact qjh hl hp rest (done++[x]) hdn' J (fun t' ht' hk x3 x4 x5 x6 x7 x8 x9 x10 x11 x13 J' n' g'=>hQ t' (by rw[ed,jjy ht];exact ht') hk x3 x4 x5 x6 x7 x8 x9 x10 x11 x13 J' oa (fun m hm hne=>(g' m oa hne).trans ((g m oa hne).trans (gA m hm)))) (fun ht'=>hN (by rw[ed,jjy ht];exact ht'))
  .intro hj x2 x3 x4 x5 x6 x7 x8 x9 x10 x11 x12 x13 x14 x15 x16 x17 x18 x19 x20 x21 x22 x23 x24 x25 x26 x27 x28 x29 x30
   simp(disch:=first|omega|rfl) only[go_sem]
   exact hN (by rw[ed,j2v ht]) ..
theorem qji {f:Fc} {bF bM bA:Nat} (hl:f.blocks.length<=10000) (hp:∀ b∈f.blocks,b.params.length<=10000/\b.instrs.length<=10000/\(∀ v∈b.params,v<f.values.length)/\∀ x∈b.instrs,x.ops.length<=6/\∀ o∈x.ops,o.value<f.values.length) {Q:Ex->St->Prop} :
 ∀ (rest done:List Blk) (_:done++rest=f.blocks) {s:List Bool} {hi:Hp} (_:OnI hi f bF bM bA s) {x3 x4 x5 x6 x7 x8 x9 x10 x11 x12 x13 x14 x15 x16 x17 x18 x20 x21 x22 x23 x24 x26:AV}
  (hQ:∀ t,jl2 s (jdr rest)=some t->∀ hj x3 x4 x5 x6 x7 x8 x9 x10 x11 x12 x13 x14 x15 x16 x17 x18 x20 x21 x22 x23 x24 x26,OnI hj f bF bM bA t->Q (.exit 0) (.mk [x0,x1,x2,x3,x4,x5,x6,x7,x8,x9,x10,x11,x12,x13,x14,x15,x16,x17,x18,clo bF bM,x20,x21,x22,x23,x24,.s (jag ja6 f.blocks),x26,vi f.blocks.length,vi f.blocks.length,.s (.ptr bM 0),.s (.ptr bF 0)] hj))
  (hN:jl2 s (jdr rest)=none->∀ hj x2 x3 x4 x5 x6 x7 x8 x9 x10 x11 x12 x13 x14 x15 x16 x17 x18 x19 x20 x21 x22 x23 x24 x25 x26 x27 x28 x29 x30,Q .ret (.mk [x0,vi 7,x2,x3,x4,x5,x6,x7,x8,x9,x10,x11,x12,x13,x14,x15,x16,x17,x18,x19,x20,x21,x22,x23,x24,x25,x26,x27,x28,x29,x30] hj)),
  W F5 jwm.loop (.mk [x0,x1,x2,x3,x4,x5,x6,x7,x8,x9,x10,x11,x12,x13,x14,x15,x16,x17,x18,clo bF bM,x20,x21,x22,x23,x24,.s (jag ja6 f.blocks),x26,vi f.blocks.length,vi done.length,.s (.ptr bM 0),.s (.ptr bF 0)] hi) Q
 | [],done,hdn,s,hi,I,x3,x4,x5,x6,x7,x8,x9,x10,x11,x12,x13,x14,x15,x16,x17,x18,x20,x21,x22,x23,x24,x26,hQ,hN=>by
  rw[f08] at hdn
  rw[jah,hdn]
  unfold jwm
  simp(disch:=first|omega|rfl) only[go_sem,f0s]
  exact hQ s rfl hi _ _ _ _ _ _ _ _ _ _ _ _ _ _ _ _ _ _ _ _ _ _ I
 | b::rest,done,hdn,s,hi,I,x3,x4,x5,x6,x7,x8,x9,x10,x11,x12,x13,x14,x15,x16,x17,x18,x20,x21,x22,x23,x24,x26,hQ,hN=>by
  have hlt1:done.length<f.blocks.length:=by rw[←hdn];simp
  have hlt:(done.length:Int)<f.blocks.length:=oa
  have hget:f.blocks[done.length]?=some b:=by rw[←hdn];simp
  obtain⟨p1,p2,p3,p4⟩:=hp b (f0c hget)
  have hix:=jai (enc:=ja6) (size:=3) hget rfl
  have hdn':(done++[b])++rest=f.blocks:=by rw[←hdn];simp
  have hs:(done.length:Int)+1=(((done++[b]).length:Nat):Int):=sc
  have ok:=I.ok
  obtain⟨hA,eA,okA,nA,xA,gA⟩:=jci ok [.nilSlice,.nilSlice,.nilSlice] (ja6 b) 58
  have IA:=I.keep okA oa gA
  have l1:=jal (enc:=jaz) (l:=b.params)
  have l2:=jal (enc:=jeh) (l:=b.instrs)
  have ed:jdr (b::rest)=b.params++((b.instrs.map jdd).flatten++jdr rest):=by simp[jdr,jwc]
  have hneA:hi.next≠bA:=by have:=I.lt;omega
  unfold ja6 at xA eA
  rw[jah]
  unfold jwm qcj
  simp(disch:=first|omega|rfl) only[go_sem,jae,eq_true hlt,hix,ja6,eA,xA,l1]
  refine qjg p1 p3 b.params [] rfl IA (fun t ht hj x16 x17 x18 x21 J n g=>?_) (fun ht=>?_)
  .have xJ:=(g _ oa hneA).trans xA
   simp(disch:=first|omega|rfl) only[go_sem,xJ,l2]
   refine qjh p2 p4 b.instrs [] rfl J (fun t' ht' hk x3 x4 x5 x6 x7 x8 x9 x10 x11 x13 J' n' g'=>?_) (fun ht'=>?_)
   .simp (disch:=first|omega|rfl) only[go_sem,jae,hs]
    exact qji hl hp rest (done++[b]) hdn' J' (fun t2 ht2=>hQ t2 (by rw[ed,jjy ht,jjy ht'];exact ht2)) (fun ht2=>hN (by rw[ed,jjy ht,jjy ht'];exact ht2))
   .intro hj x2 x3 x4 x5 x6 x7 x8 x9 x10 x11 x12 x13 x14 x15 x16 x17 x18 x19 x20 x21 x22 x23 x24 x25 x26 x27 x28 x29 x30
    simp(disch:=first|omega|rfl) only[go_sem]
    exact hN (by rw[ed,jjy ht,j2v ht']) ..
  .intro hj x2 x3 x4 x5 x6 x7 x8 x9 x10 x11 x12 x13 x14 x15 x16 x17 x18 x19 x20 x21 x22 x23 x24 x25 x26 x27 x28 x29 x30
   simp(disch:=first|omega|rfl) only[go_sem]
   exact hN (by rw[ed,j2v ht]) ..
theorem j5h {s:List Bool} {bA:Nat} (hl:s.length<=10000) {Q:Ex->St->Prop} :
 ∀ (rest done:List Bool) (_:done++rest=s) {hi:Hp} (_:Ok hi) (_:hi.get bA=some (.arr (bls s) 4)) {x3 x4 x5:AV}
  (hQ:false∉rest->∀ hj x3 x4 x5,Q (.exit 0) (.mk [.s (.slice bA 0 s.length s.length true 1),vb false,x2,x3,x4,x5,vi s.length,vi s.length] hj))
  (hF:∀ (k:Nat) hj x3 x4 x5 x6 x7,false∈rest->Q .ret (.mk [.s (.slice bA 0 s.length s.length true 1),vb false,vi k,x3,x4,x5,x6,x7] hj)),
  W F5 jor.loop (.mk [.s (.slice bA 0 s.length s.length true 1),vb false,x2,x3,x4,x5,vi s.length,vi done.length] hi) Q
 | [],done,hdn,hi,ok,xA,x3,x4,x5,hQ,hF=>by
  rw[f08] at hdn
  rw[jah,hdn]
  unfold jor
  simp(disch:=first|omega|rfl) only[go_sem,f0s]
  exact hQ sc hi ..
 | b::rest,done,hdn,hi,ok,xA,x3,x4,x5,hQ,hF=>by
  have hlt1:done.length<s.length:=by rw[←hdn];simp
  have hlt:(done.length:Int)<s.length:=oa
  have hget:s[done.length]?=some b:=by rw[←hdn];simp
  have hcell:(bls s)[done.length]?=some (.bool b):=by unfold bls;rw[f1b,hget];rfl
  have hrd:rdB (hi.get bA) done.length 1=some [.bool b]:=by rw[xA];exact j4p hcell
  have hix:=jbf (size:=1) (b:=bA) (off:=0) (len:=s.length) (mc:=s.length) (sz:=1) (ex:=true) (m:=done.length) hlt1
  rw[f0y,f19] at hix
  have hdn':(done++[b])++rest=s:=by rw[←hdn];simp
  have hs:(done.length:Int)+1=(((done++[b]).length:Nat):Int):=sc
  rw[jah]
  unfold jor j5c
  cases b with
  | true =>
   simp(disch:=first|omega|rfl) only[go_sem,jae,eq_true hlt,hix,hrd,jtx,q3n,hs]
   exact j5h hl rest (done++[true]) hdn' ok xA (fun h=>hQ (by simpa using h)) (fun k hj x3 x4 x5 x6 x7 h=>hF k hj x3 x4 x5 x6 x7 (by simp[h]))
  | false =>
   simp(disch:=first|omega|rfl) only[go_sem,jae,eq_true hlt,hix,hrd,jtx,q3n,hs]
   exact hF _ _ _ _ _ _ _ sc
theorem qnj {hi:Hp} (ok:Ok hi) {s:List Bool} {bA:Nat} (hl:s.length<=10000) (xA:hi.get bA=some (.arr (bls s) 4)):WC F5 89 [.s (.slice bA 0 s.length s.length true 1),vb false] hi (fun u h'=>u=vb (decide (false∈s))):=by
 refine ja3 (no5 rfl rfl rfl rfl rfl) q1w rfl ?_
 unfold qi7
 simp(disch:=first|omega|rfl) only[go_sem]
 refine WC.imp (Q:=fun u h'=>(false∈s/\∃ k:Nat,u=vi k)∨(false∉s/\u=vi (-1))) ?_ ?_
 .refine ja3 (no5 rfl rfl rfl rfl rfl) qt7 rfl ?_
  unfold qcv
  simp(disch:=first|omega|rfl) only[go_sem]
  refine j5h hl s [] rfl ok xA (fun h hj x3 x4 x5=>?_) (fun k hj x3 x4 x5 x6 x7 h=>?_)
  .simp (disch:=first|omega|rfl) only[go_sem]
   first | exact .inr ⟨h,rfl⟩ | exact .inr h
  .simp (disch:=first|omega|rfl) only[go_sem]
   exact .inl ⟨h,k,rfl⟩
 .rintro u h' (⟨h,k,rfl⟩ | ⟨h,rfl⟩)
  .have c1:(0<=(k:Int))=True:=sc
   simp(disch:=first|omega|rfl) only[go_sem,c1,h]
  .simp (disch:=first|omega|rfl) only[go_sem,h]
def jni (f:Fc):Nat:=match jl2 (List.replicate f.values.length false) (jdr f.blocks) with
 | none=>7
 | some t=>if false∈t then 6 else 0
theorem qnk {h:Hp} (ok:Ok h) {f:Fc} (hl:f.blocks.length<=10000) (hv:f.values.length<=10000) (hp:∀ b∈f.blocks,b.params.length<=10000/\b.instrs.length<=10000/\(∀ v∈b.params,v<f.values.length)/\∀ x∈b.instrs,x.ops.length<=6/\∀ o∈x.ops,o.value<f.values.length) :
 WC F5 61 [.agg [jag jaz f.values,jag ja6 f.blocks]] h (fun v h'=>∃ d,jhr true h' d v=some (vi (jni f))):=by
 refine ja3 (no5 rfl rfl rfl rfl rfl) q1s rfl ?_
 unfold qi3
 have hpos:=ok.pos
 obtain⟨hA,eA,okA,nA,xA,gA⟩:=jeb ok [jag jaz f.values,jag ja6 f.blocks] 32
 obtain⟨hB,eB,okB,nB,xB,gB⟩:=jeb okA (rep [.bool false] f.values.length) 4
 obtain⟨hC,eC,okC,nC,xC,gC⟩:=jci okB [.nilSlice] [.slice hA.next 0 f.values.length f.values.length true 1] 130
 have nb:hB.next=h.next+2:=oa
 rw[qjf] at xB
 have hbl:bls (List.replicate f.values.length false)=List.replicate f.values.length (.bool false):=by unfold bls;rw[List.map_replicate]
 rw[←hbl] at xB
 have I:OnI hC f h.next hB.next hA.next (List.replicate f.values.length false) :=
  ⟨okC,f2o,⟨oa,oa,oa⟩,⟨oa,oa,oa⟩,(gC _ oa).trans ((gB _ oa).trans xA),xC,(gC _ oa).trans xB⟩
 have l1:=jal (enc:=jaz) (l:=f.values)
 have l2:=jal (enc:=ja6) (l:=f.blocks)
 have hmk:=j1y (e:=4) (size:=1) (bytes:=1) (z:=[.bool false]) (m:=f.values.length) okA oa oa
 rw[eB] at hmk
 have xF:=I.xF
 rw[nA,nb] at I
 rw[nA] at hmk eC
 rw[nb] at eC
 simp(disch:=first|omega|rfl) only[go_sem,eA,xA,l1,hmk,nb,eC,nA,xF,l2,jks]
 refine qji hl hp f.blocks [] rfl I (fun t ht hj x3 x4 x5 x6 x7 x8 x9 x10 x11 x12 x13 x14 x15 x16 x17 x18 x20 x21 x22 x23 x24 x26 J=>?_) (fun ht=>?_)
 .have xM:=J.xM
  have eo:jni f=if false∈t then 6 else 0:=by unfold jni;rw[ht]
  rw[eo]
  simp(disch:=first|omega|rfl) only[go_sem,xM]
  have hts:t.length=f.values.length:=J.hs
  have hct:=qnj J.ok (s:=t) oa J.xA
  rw[hts] at hct
  refine WC.imp hct ?_
  rintro u h' rfl
  by_cases e:false∈t
  .simp (disch:=first|omega|rfl) only[go_sem,e]
   exact⟨1,rfl⟩
  .simp (disch:=first|omega|rfl) only[go_sem,e]
   unfold qck
   simp(disch:=first|omega|rfl) only[go_sem]
   exact⟨1,rfl⟩
 .intro hj x2 x3 x4 x5 x6 x7 x8 x9 x10 x11 x12 x13 x14 x15 x16 x17 x18 x19 x20 x21 x22 x23 x24 x25 x26 x27 x28 x29 x30
  have eo:jni f=7:=by unfold jni;rw[ht]
  rw[eo]
  simp(disch:=first|omega|rfl) only[go_sem]
  exact⟨1,rfl⟩
def S6 (f:FuncId):Bool:=Nat.beq f 59||Nat.beq f 61
def F6:Fns:=PX S6 F5
theorem q69 {A:Nat->Int}:Env Tryz.prog A tys F6:=jhm q68
theorem no6 {f:FuncId} (h1:S1 f=false) (h2:Nat.beq f jgu.f=false) (h3:S3 f=false) (h4:S4 f=false) (h5:S5 f=false) (h6:S6 f=false) {h:Hp}:jdg F6 f vs h=none:=(ja8 h6).trans (no5 h1 h2 h3 h4 h5)
theorem qc3 {m:Nat×Nat} {f:Fc} (k:FcOk m f):∀ b∈f.blocks,b.params.length<=10000/\b.instrs.length<=10000/\(∀ v∈b.params,v<f.values.length)/\∀ x∈b.instrs,x.ops.length<=6/\∀ o∈x.ops,o.value<f.values.length:=fun b hb=>by
 have h1:=k.blk b hb
 exact⟨oa,oa,k.prm b hb,fun x hx=>⟨(k.ins b hb x hx).nops,fun o ho=>((k.ins b hb x hx).opd o ho).val⟩⟩
section
variable {h:Hp} {f:Fc} {m:Nat×Nat} {Q:AV->Hp->Prop}
theorem quc (m1:2<=m.1/\m.1<=10) (m2:2<=m.2/\m.2<=10):WC F6 57 [.agg [si m.1,si m.2]] h Q=Q (vi 0) h :=
 jam ((ja8 rfl).trans ((ja8 rfl).trans (jbi rfl (by rfl) (qt8 jev m1 m2))))
theorem qud (k:FcOk m f):WC F6 58 [.agg [jag jaz f.values,jag ja6 f.blocks]] h Q=Q (vi 0) h :=
 jam ((ja8 rfl).trans ((ja8 rfl).trans (jbi rfl (by simp[jay,ja9,jbj,jbb,jbk,jbg,jbm]) (qua jev k))))
theorem qnl {op:Nat} {ops:List Ms.Opd} {sp:List (Nat×Nat)} (hc:∀ v,cl f.values v<2) (k:InsOk m f.values ⟨op,ops,sp⟩):WC F6 59 [.agg [jag jaz f.values,jag ja6 f.blocks],.agg [si m.1,si m.2],.agg [si op,jag jbe ops,jag jda sp]] h Q=Q (vi 0) h :=
 jam (jbi rfl (by simp[jay,ja9,jbj,jbb,jbk,jbg,jcg,jbm]) (qng jev hc k))
theorem qnm {e:Ms.Edg} (k:jst f.values f.blocks e) (hl:e.args.length<=10000):WC F6 60 [.agg [jag jaz f.values,jag ja6 f.blocks],.agg [si e.block,jag jaz e.args]] h Q=Q (vi 0) h :=
 jam ((ja8 rfl).trans (jbi rfl (by simp[jay,ja9,jbj,jbb,jbk,jbg,jcg,jbm]) (qm6 jev k hl)))
theorem qnn (k:FcOk m f):WC F6 61 [.agg [jag jaz f.values,jag ja6 f.blocks]] h Q=Q (vi (jni f)) h :=
 jam (jbi rfl (by simp[jay,ja9,jbj,jbb,jbk,jbg,jbm]) (qnk jev (by have:=k.nb;omega) (by have:=k.nv;omega) (qc3 k)))
end
theorem qjj {l:List Nat} (hl:l.length<=10000) (hp:∀ c∈l,c<2) {x32:AV} {Q:Ex->St->Prop} :
 ∀ (d i:Nat) (_:i+d=l.length) {hi:Hp} (_:Ok hi) {x24 x25 x27:AV}
  (hQ:∀ x24 x25 x27,Q (.exit 0) (.mk [x0,x1,x2,x3,x4,x5,x6,x7,x8,x9,x10,x11,x12,x13,x14,x15,x16,x17,x18,x19,x20,x21,x22,x23,x24,x25,.s (jag jaz l),x27,vi l.length,vi l.length,x30,x31,x32,x33,x34,x35] hi)),
  W F6 jwn.loop (.mk [x0,x1,x2,x3,x4,x5,x6,x7,x8,x9,x10,x11,x12,x13,x14,x15,x16,x17,x18,x19,x20,x21,x22,x23,x24,x25,.s (jag jaz l),x27,vi l.length,vi i,x30,x31,x32,x33,x34,x35] hi) Q
 | 0,i,hd,hi,ok,x24,x25,x27,hQ=>by
  obtain rfl:i=l.length:=oa
  rw[jah]
  unfold jwn
  simp(disch:=rfl) only[go_sem,f0s]
  grind
 | d+1,i,hd,hi,ok,x24,x25,x27,hQ=>by
  have hlt:(i:Int)<(l.length:Int):=oa
  obtain⟨c,hio⟩:∃ y,l[i]?=some y:=⟨_,f0b oa⟩
  have hc:=hp c (f0c hio)
  have hix:=jai (enc:=jaz) (size:=1) hio rfl
  have hs:(i:Int)+1=((i+1:Nat):Int):=oa
  have c1:((c:Int)<0)=False:=sc
  have c2:(2<=(c:Int))=False:=by simp;omega
  rw[jah]
  unfold jwn qcn
  simp(disch:=first|omega|rfl) only[go_sem,jae,eq_true hlt,hix,jaz,c1,c2,hs]
  exact qjj hl hp d (i+1) oa ok hQ
theorem qjk {f:Fc} {m:Nat×Nat} {l:List Ms.Ins} (hl:l.length<=10000) (hc:∀ v,cl f.values v<2) (hp:∀ x∈l,InsOk m f.values x) {bF bM:Nat} {Q:Ex->St->Prop} :
 ∀ (d i:Nat) (_:i+d=l.length) {hi:Hp} (_:Ok hi) (_:bF<hi.next/\bM<hi.next) (_:hi.get bF=some (.arr [jag jaz f.values,jag ja6 f.blocks] 32)) (_:hi.get bM=some (.arr [si m.1,si m.2] 28)) {x11 x12 x13 x15:AV}
  (hQ:∀ hj x11 x12 x13 x15,Ok hj->hi.next<=hj.next->(∀ k,k<hi.next->hj.get k=hi.get k)->Q (.exit 4) (.mk [x0,x1,x2,x3,x4,x5,x6,x7,x8,x9,x10,x11,x12,x13,.s (jag jeh l),x15,vi l.length,vi l.length,x18,x19,x20,x21,x22,x23,x24,x25,x26,x27,x28,x29,x30,x31,.s (.ptr bF 0),x33,x34,.s (.ptr bM 0)] hj)),
  W F6 jwo.loop (.mk [x0,x1,x2,x3,x4,x5,x6,x7,x8,x9,x10,x11,x12,x13,.s (jag jeh l),x15,vi l.length,vi i,x18,x19,x20,x21,x22,x23,x24,x25,x26,x27,x28,x29,x30,x31,.s (.ptr bF 0),x33,x34,.s (.ptr bM 0)] hi) Q
 | 0,i,hd,hi,ok,hb,xF,xM,x11,x12,x13,x15,hQ=>by
  obtain rfl:i=l.length:=oa
  rw[jah]
  unfold jwo
  simp(disch:=first|omega|rfl) only[go_sem,f0s]
  grind
 | d+1,i,hd,hi,ok,hb,xF,xM,x11,x12,x13,x15,hQ=>by
  have hlt:(i:Int)<(l.length:Int):=oa
  obtain⟨x,hio⟩:∃ y,l[i]?=some y:=⟨_,f0b oa⟩
  have hx:InsOk m f.values ⟨x.op,x.ops,x.spoils⟩:=hp x (f0c hio)
  have hix:=jai (enc:=jeh) (size:=3) hio rfl
  have hs:(i:Int)+1=((i+1:Nat):Int):=oa
  obtain⟨hA,eA,okA,nA,xA,gA⟩:=jci ok [.int .i64 0,.nilSlice,.nilSlice] (jeh x) 62
  have yF:=(gA _ hb.1).trans xF
  have yM:=(gA _ hb.2).trans xM
  unfold jeh at xA eA
  rw[jah]
  unfold jwo qco
  simp(disch:=first|omega|rfl) only[go_sem,jae,eq_true hlt,hix,jeh,eA,xA,yF,yM,qnl hc hx,hs]
  exact qjk hl hc hp d (i+1) oa okA ⟨oa,oa⟩ yF yM (fun hj x11 x12 x13 x15 o n g=>hQ hj x11 x12 x13 x15 o oa (fun k hk=>(g k oa).trans (gA k hk)))
theorem qjl {f:Fc} {l:List Ms.Edg} (hl:l.length<=10000) (hp:∀ e∈l,jst f.values f.blocks e/\e.args.length<=10000) {bF:Nat} {Q:Ex->St->Prop} :
 ∀ (d i:Nat) (_:i+d=l.length) {hi:Hp} (_:Ok hi) (_:bF<hi.next) (_:hi.get bF=some (.arr [jag jaz f.values,jag ja6 f.blocks] 32)) {x3 x4 x5 x7:AV}
  (hQ:∀ hj x3 x4 x5 x7,Ok hj->hi.next<=hj.next->(∀ k,k<hi.next->hj.get k=hi.get k)->Q (.exit 6) (.mk [x0,x1,x2,x3,x4,x5,.s (jag jgi l),x7,vi l.length,vi l.length,x10,x11,x12,x13,x14,x15,x16,x17,x18,x19,x20,x21,x22,x23,x24,x25,x26,x27,x28,x29,x30,x31,.s (.ptr bF 0),x33,x34,x35] hj)),
  W F6 jwp.loop (.mk [x0,x1,x2,x3,x4,x5,.s (jag jgi l),x7,vi l.length,vi i,x10,x11,x12,x13,x14,x15,x16,x17,x18,x19,x20,x21,x22,x23,x24,x25,x26,x27,x28,x29,x30,x31,.s (.ptr bF 0),x33,x34,x35] hi) Q
 | 0,i,hd,hi,ok,hb,xF,x3,x4,x5,x7,hQ=>by
  obtain rfl:i=l.length:=oa
  rw[jah]
  unfold jwp
  simp(disch:=rfl) only[go_sem,f0s]
  grind
 | d+1,i,hd,hi,ok,hb,xF,x3,x4,x5,x7,hQ=>by
  have hlt:(i:Int)<(l.length:Int):=oa
  obtain⟨e,hio⟩:∃ y,l[i]?=some y:=⟨_,f0b oa⟩
  obtain⟨he,hal⟩:=hp e (f0c hio)
  have hix:=jai (enc:=jgi) (size:=2) hio rfl
  have hs:(i:Int)+1=((i+1:Nat):Int):=oa
  obtain⟨hA,eA,okA,nA,xA,gA⟩:=jci ok [.int .i64 0,.nilSlice] (jgi e) 65
  have yF:=(gA _ hb).trans xF
  unfold jgi at xA eA
  rw[jah]
  unfold jwp qcp
  simp(disch:=first|omega|rfl) only[go_sem,jae,eq_true hlt,hix,jgi,eA,xA,yF,qnm he hal,hs]
  exact qjl hl hp d (i+1) oa okA oa yF (fun hj x3 x4 x5 x7 o n g=>hQ hj x3 x4 x5 x7 o oa (fun k hk=>(g k oa).trans (gA k hk)))
theorem qc4 {f:Fc} {m:Nat×Nat} (k:FcOk m f) {bF bM:Nat} {Q:Ex->St->Prop} :
 ∀ (d i:Nat) (_:i+d=f.blocks.length) {hi:Hp} (_:Ok hi) (_:bF<hi.next/\bM<hi.next) (_:hi.get bF=some (.arr [jag jaz f.values,jag ja6 f.blocks] 32)) (_:hi.get bM=some (.arr [si m.1,si m.2] 28))
  {x3 x4 x5 x6 x7 x8 x9 x10 x11 x12 x13 x14 x15 x16 x17 x18 x20:AV}
  (hQ:∀ hj x3 x4 x5 x6 x7 x8 x9 x10 x11 x12 x13 x14 x15 x16 x17 x18 x20,Ok hj->hj.get bF=hi.get bF->Q (.exit 2) (.mk [x0,x1,x2,x3,x4,x5,x6,x7,x8,x9,x10,x11,x12,x13,x14,x15,x16,x17,x18,.s (jag ja6 f.blocks),x20,vi f.blocks.length,vi f.blocks.length,x23,x24,x25,x26,x27,x28,x29,x30,x31,.s (.ptr bF 0),x33,x34,.s (.ptr bM 0)] hj)),
  W F6 jwq.loop (.mk [x0,x1,x2,x3,x4,x5,x6,x7,x8,x9,x10,x11,x12,x13,x14,x15,x16,x17,x18,.s (jag ja6 f.blocks),x20,vi f.blocks.length,vi i,x23,x24,x25,x26,x27,x28,x29,x30,x31,.s (.ptr bF 0),x33,x34,.s (.ptr bM 0)] hi) Q
 | 0,i,hd,hi,ok,hb,xF,xM,x3,x4,x5,x6,x7,x8,x9,x10,x11,x12,x13,x14,x15,x16,x17,x18,x20,hQ=>by
  obtain rfl:i=f.blocks.length:=oa
  rw[jah]
  unfold jwq
  simp(disch:=first|omega|rfl) only[go_sem,f0s]
  grind
 | d+1,i,hd,hi,ok,hb,xF,xM,x3,x4,x5,x6,x7,x8,x9,x10,x11,x12,x13,x14,x15,x16,x17,x18,x20,hQ=>by
  have nb:=k.nb
  have nv:=k.nv
  have hlt:(i:Int)<(f.blocks.length:Int):=oa
  obtain⟨b,hio⟩:∃ y,f.blocks[i]?=some y:=⟨_,f0b oa⟩
  have hbm:=f0c hio
  have hbk:=k.blk b hbm
  have hix:=jai (enc:=ja6) (size:=3) hio rfl
  have hs:(i:Int)+1=((i+1:Nat):Int):=oa
  obtain⟨hA,eA,okA,nA,xA,gA⟩:=jci ok [.nilSlice,.nilSlice,.nilSlice] (ja6 b) 58
  have yF:=(gA _ hb.1).trans xF
  have yM:=(gA _ hb.2).trans xM
  have l1:=jal (enc:=jeh) (l:=b.instrs)
  have l2:=jal (enc:=jgi) (l:=b.edges)
  have hE:∀ e∈b.edges,jst f.values f.blocks e/\e.args.length<=10000:=fun e he=>by
   have h1:=k.edg b hbm e he
   refine⟨h1,?_⟩
   obtain⟨_,_,t,h2,h3,_⟩:=h1
   have h4:=(k.blk t (f0c h2)).1
   have:=congrArg List.length h3
   simp only[f09] at this
   omega
  have fin:∀ (x3 x4 x5 x7:AV) (x11 x12 x13 x15:AV) (hk:Hp),Ok hk->hA.next<=hk.next->(∀ n,n<hA.next->hk.get n=hA.get n)->∀ (x10:AV) (K:Ex->St->Prop),(∀ hj x3 x4 x5 x7,Ok hj->hk.next<=hj.next->(∀ n,n<hk.next->hj.get n=hk.get n)->K .normal (.mk [x0,x1,x2,x3,x4,x5,.s (jag jgi b.edges),x7,vi b.edges.length,vi b.edges.length,x10,x11,x12,x13,.s (jag jeh b.instrs),x15,vi b.instrs.length,vi b.instrs.length,.s (.ptr hi.next 0),.s (jag ja6 f.blocks),vb true,vi f.blocks.length,vi i,x23,x24,x25,x26,x27,x28,x29,x30,x31,.s (.ptr bF 0),x33,x34,.s (.ptr bM 0)] hj)) ->
   ∀ (x6 x8 x9:AV),W F6 j2u (.mk [x0,x1,x2,x3,x4,x5,x6,x7,x8,x9,x10,x11,x12,x13,.s (jag jeh b.instrs),x15,vi b.instrs.length,vi b.instrs.length,.s (.ptr hi.next 0),.s (jag ja6 f.blocks),vb true,vi f.blocks.length,vi i,x23,x24,x25,x26,x27,x28,x29,x30,x31,.s (.ptr bF 0),x33,x34,.s (.ptr bM 0)] hk) K:=fun x3 x4 x5 x7 x11 x12 x13 x15 hk o n g x10 K hK x6 x8 x9=>by
   have zA:=(g hi.next oa).trans xA
   have zF:=(g bF oa).trans yF
   unfold ja6 at zA
   unfold j2u
   simp(disch:=first|omega|rfl) only[go_sem,zA,l2]
   refine qjl oa hE b.edges.length 0 oa o oa zF (fun hj x3 x4 x5 x7 o' n' g'=>?_)
   simp(disch:=first|omega|rfl) only[go_sem]
   exact hK hj x3 x4 x5 x7 o' n' g'
  have zz:∀ (hk:Hp),hA.next<=hk.next->(∀ n,n<hA.next->hk.get n=hA.get n)->hk.get hi.next=some (.arr [jag jaz b.params,jag jeh b.instrs,jag jgi b.edges] 58):=fun hk n g=>(g _ oa).trans xA
  unfold ja6 at eA xA
  rw[jah]
  unfold jwq qcq
  simp(disch:=first|omega|rfl) only[go_sem,jae,eq_true hlt,hix,ja6,eA,xA,l1]
  refine qjk oa (j8b k.cls) (k.ins b hbm) b.instrs.length 0 oa okA ⟨oa,oa⟩ yF yM (fun hj x11 x12 x13 x15 o n g=>?_)
  have zA:=zz hj n g
  by_cases e:1<b.edges.length
  .have c1:(1<(b.edges.length:Int))=True:=by simp;omega
   have hne:=f1u.2 (k.par b hbm e)
   have c2:((b.instrs.length:Int)=0)=False:=eq_false oa
   simp(disch:=first|omega|rfl) only[go_sem,zA,l1,l2,c1,c2]
   refine fin _ _ _ _ _ _ _ _ hj o n g _ _ (fun hk x3 x4 x5 x7 o' n' g'=>?_) _ _ _
   simp(disch:=first|omega|rfl) only[go_sem,jae,hs]
   exact qc4 k d (i+1) oa o' ⟨oa,oa⟩ ((g' _ oa).trans ((g _ oa).trans yF)) ((g' _ oa).trans ((g _ oa).trans yM)) (fun h2 x3 x4 x5 x6 x7 x8 x9 x10 x11 x12 x13 x14 x15 x16 x17 x18 x20 o2 g2=>hQ h2 x3 x4 x5 x6 x7 x8 x9 x10 x11 x12 x13 x14 x15 x16 x17 x18 x20 o2 (g2.trans ((g' _ oa).trans ((g _ oa).trans (gA _ hb.1)))))
  .have c1:(1<(b.edges.length:Int))=False:=by simp;omega
   simp(disch:=first|omega|rfl) only[go_sem,zA,l1,l2,c1]
   refine fin _ _ _ _ _ _ _ _ hj o n g _ _ (fun hk x3 x4 x5 x7 o' n' g'=>?_) _ _ _
   simp(disch:=first|omega|rfl) only[go_sem,jae,hs]
   exact qc4 k d (i+1) oa o' ⟨oa,oa⟩ ((g' _ oa).trans ((g _ oa).trans yF)) ((g' _ oa).trans ((g _ oa).trans yM)) (fun h2 x3 x4 x5 x6 x7 x8 x9 x10 x11 x12 x13 x14 x15 x16 x17 x18 x20 o2 g2=>hQ h2 x3 x4 x5 x6 x7 x8 x9 x10 x11 x12 x13 x14 x15 x16 x17 x18 x20 o2 (g2.trans ((g' _ oa).trans ((g _ oa).trans (gA _ hb.1)))))
theorem qno {h:Hp} (ok:Ok h) {f:Fc} {m:Nat×Nat} (k:FcOk m f) (m1:2<=m.1/\m.1<=10) (m2:2<=m.2/\m.2<=10):WC F6 41 [.agg [jag jaz f.values,jag ja6 f.blocks],.agg [si m.1,si m.2]] h (fun v h'=>∃ d,jhr true h' d v=some (vi (jni f))):=by
 refine ja3 (no6 rfl rfl rfl rfl rfl rfl) q1u rfl ?_
 unfold qi5
 have nb:=k.nb
 have nv:=k.nv
 obtain⟨hA,eA,okA,nA,xA,gA⟩:=jeb ok [jag jaz f.values,jag ja6 f.blocks] 32
 obtain⟨hB,eB,okB,nB,xB,gB⟩:=jeb okA [si m.1,si m.2] 28
 have yA:=(gB _ oa).trans xA
 rw[nA] at xB
 obtain⟨b0,hb0⟩:∃ y,f.blocks[0]?=some y:=⟨_,f0b oa⟩
 have h0:=k.ent b0 hb0
 have ix0:ju3 3 (.s (jag ja6 f.blocks)) (vi 0)=some (.s (.cp (ja6 b0))):=jai (enc:=ja6) (size:=3) hb0 rfl
 have l1:=jal (enc:=jaz) (l:=f.values)
 have l2:=jal (enc:=ja6) (l:=f.blocks)
 have l3:=jal (enc:=jaz) (l:=b0.params)
 rw[h0] at l3
 simp(disch:=first|omega|rfl) only[go_sem,eA,eB,nA,xB,quc m1 m2]
 unfold qct
 simp(disch:=first|omega|rfl) only[go_sem,yA,qud k]
 unfold qcs
 simp(disch:=first|omega|rfl) only[go_sem,yA,l1]
 refine qjj oa k.cls f.values.length 0 oa okB (fun x24 x25 x27=>?_)
 simp(disch:=first|omega|rfl) only[go_sem,yA,ix0,ja6,h0,qgg]
 unfold qcr
 simp(disch:=first|omega|rfl) only[go_sem,yA,l2]
 refine qc4 k f.blocks.length 0 oa okB ⟨oa,oa⟩ yA xB (fun hj x3 x4 x5 x6 x7 x8 x9 x10 x11 x12 x13 x14 x15 x16 x17 x18 x20 o g=>?_)
 have zA:=g.trans yA
 simp(disch:=first|omega|rfl) only[go_sem,zA,qnn k]
 exact⟨1,rfl⟩
theorem qc5:∀ (l:List Nat) (s:List Bool),l.Nodup->(∀ v∈l,s[v]?=some false)->∃ t,jl2 s l=some t/\t.length=s.length/\∀ i,t[i]?=if i∈l then some true else s[i]?
 | [],s,_,_=>⟨s,rfl,rfl,fun i=>sc⟩
 | v::l,s,hd,hf=>by
  have hv:=hf v sc
  have hlt:v<s.length:=by
   rcases f0m v s.length with h | h
   .exact h
   .rw [f0v h] at hv;cases hv
  obtain⟨hn,hd'⟩:=f0q.1 hd
  obtain⟨t,h1,h2,h3⟩:=qc5 l (s.set v true) hd' (fun u hu=>by
   have hne:v≠u:=fun e=>hn (e▸hu)
   rw[f2i hne];exact hf u (by simp[hu]))
  refine⟨t,by unfold jl2;rw[if_neg (by rw[hv];simp)];exact h1,by rw[h2,f3b],fun i=>?_⟩
  rw[h3]
  by_cases e:i=v
  .subst e
   rw[if_neg hn,if_pos sc,List.getElem?_set_self hlt]
  .by_cases h:i∈l
   .rw [if_pos h,if_pos (by simp[h])]
   .rw [if_neg h,if_neg (by simp[e,h]),f2i (fun x=>e x.symm)]
theorem qg0 {f:Fc} (h:(jdr f.blocks).Perm (List.range f.values.length)):jni f=0:=by
 have hm:∀ v,v∈jdr f.blocks↔v<f.values.length:=fun v=>by rw[h.mem_iff,List.mem_range]
 obtain⟨t,h1,h2,h3⟩:=qc5 (jdr f.blocks) (List.replicate f.values.length false) (h.nodup_iff.2 List.nodup_range) (fun v hv=>by rw[List.getElem?_replicate,if_pos ((hm v).1 hv)])
 unfold jni
 rw[h1]
 rw[f2o] at h2
 have:false∉t:=fun hf=>by
  obtain⟨i,hi⟩:=f2r hf
  have hlt:i<t.length:=by
   rcases f0m i t.length with h | h
   .exact h
   .rw [f0v h] at hi;cases hi
  rw[h3,if_pos ((hm i).2 oa)] at hi
  cases hi
 simp only[this,if_false]
def S7 (f:FuncId):Bool:=Nat.beq f 41
def F7:Fns:=PX S7 F6
theorem q7a {A:Nat->Int}:Env Tryz.prog A tys F7:=jhm q69
theorem no7 {f:FuncId} (h1:S1 f=false) (h2:Nat.beq f jgu.f=false) (h3:S3 f=false) (h4:S4 f=false) (h5:S5 f=false) (h6:S6 f=false) (h7:S7 f=false) {h:Hp}:jdg F7 f vs h=none:=(ja8 h7).trans (no6 h1 h2 h3 h4 h5 h6)
theorem qr8 {f:FuncId} (h4:S4 f=false) (h5:S5 f=false) (h6:S6 f=false) (h7:S7 f=false) {h:Hp}:jdg F7 f vs h=jdg F3 f vs h:=(ja8 h7).trans ((ja8 h6).trans ((ja8 h5).trans (ja8 h4)))
section
variable {h:Hp} {f:Fc} {m:Nat×Nat} {Q:AV->Hp->Prop}
theorem que (k:FcOk m f) (m1:2<=m.1/\m.1<=10) (m2:2<=m.2/\m.2<=10):jdg F7 41 [.agg [jag jaz f.values,jag ja6 f.blocks],.agg [si m.1,si m.2]] h=some (vi (jni f),h) :=
 jbi rfl (by simp only[jay,ja9,jbj,jen,jbb,jbk,jbg,jcg,jcr,jbm,if_true]) (qno jev k m1 m2)
end
section
variable {α:Type}
def Gs (lo:Nat) (h:Hp) (ty sz:Nat) (E:List SV->α->List Nat->Prop) (x:SV) (l:List α):Prop :=
 ∃ ns,Sl h ty sz false E x l ns/\ns.Nodup/\∀ n∈ns,lo<=n/\n<h.next
variable {lo ty sz:Nat} {E:List SV->α->List Nat->Prop} {h h':Hp} {x:SV} {l:List α}
theorem Gs.nil:Gs lo h ty sz E .nilSlice []:=⟨[],.nil,.nil,sc⟩
theorem Gs.len (k:Gs lo h ty sz E x l):jx6 (.s x)=some (vi l.length):=by
 obtain⟨ns,k,_⟩:=k
 exact k.len
end
def OX (h:Hp) (row:List SV) (x:Ms.Ins) (ns:List Nat):Prop:=∃ a b n1 n2 ex,row=[si x.op,a,b]/\Sl h tt.opd 5 ex EO a x.ops n1/\Sl h tt.reg 2 false ER b x.spoils n2/\ns=n1++n2
def OE (h:Hp) (row:List SV) (e:Ms.Edg) (ns:List Nat):Prop:=∃ a,row=[si e.block,a]/\Sl h tt.int 1 false EI a e.args ns
def OB (h:Hp) (row:List SV) (b:Blk) (ns:List Nat):Prop:=∃ p i e n1 n2 n3 ex,row=[p,i,e]/\Sl h tt.int 1 false EI p b.params n1/\Sl h tt.ins 3 false (OX h) i b.instrs n2/\Sl h tt.edg 2 ex (OE h) e b.edges n3/\ns=n1++(n2++n3)
section
variable {h h':Hp}
theorem OE.keep {x:Ms.Edg} (k:OE h row x ns) (hk:∀ n∈ns,h'.get n=h.get n):OE h' row x ns:=by
 obtain⟨a,e,h1⟩:=k
 exact⟨a,e,h1.keep hk⟩
theorem OX.keep {x:Ms.Ins} (k:OX h row x ns) (hk:∀ n∈ns,h'.get n=h.get n):OX h' row x ns:=by
 obtain⟨a,b,n1,n2,ex,e,h1,h2,rfl⟩:=k
 exact⟨a,b,n1,n2,ex,e,h1.keep fun n hn=>hk n (by grind),h2.keep fun n hn=>hk n (by grind),rfl⟩
theorem OB.keep {x:Blk} (k:OB h row x ns) (hk:∀ n∈ns,h'.get n=h.get n):OB h' row x ns:=by
 obtain⟨p,i,e,n1,n2,n3,ex,e1,h1,h2,h3,rfl⟩:=k
 exact⟨p,i,e,n1,n2,n3,ex,e1,h1.keep fun n hn=>hk n (by grind),h2.imp (fun n hn=>hk n (by grind)) fun row a ms hm k=>k.keep fun n hn=>hk n (by grind),h3.imp (fun n hn=>hk n (by grind)) fun row a ms hm k=>k.keep fun n hn=>hk n (by grind),rfl⟩
variable {d:Nat} {k:Bool}
structure OF (h:Hp) (x:AV) (f:Fc) (na nb:List Nat):Prop where
 ex:∃ a b,x=.agg [a,b]/\Sl h tt.int 1 false EI a f.values na/\Sl h tt.blk 3 false (OB h) b f.blocks nb
 nd:(na++nb).Nodup
 lt:∀ n∈na++nb,1<=n/\n<h.next
theorem OF.keep {x:AV} {f:Fc} {na nb:List Nat} (o:OF h x f na nb) (hk:∀ n∈na++nb,h'.get n=h.get n) (hn:h.next<=h'.next):OF h' x f na nb:=by
 obtain⟨⟨a,b,rfl,h1,h2⟩,nd,lt⟩:=o
 exact⟨⟨a,b,rfl,h1.keep fun n hn=>hk n (by grind),h2.imp (fun n hn=>hk n (by grind)) fun row a ms hm k=>k.keep fun n hn=>hk n (by grind)⟩,nd,fun n hm=>by grind⟩
end
end
end Go.Proofs.YtkpadfebkaangaaGreatDoor.Ev
namespace Go.Proofs.YtkpadfebkaangaaGreatDoor.Ms
set_option linter.all false
def j8d (g:List (List Nat)) (b:Bool):List (List Nat) :=
 let a:=g.length
 match b with
 | false=>g.modify (a - 1) (·++[a,a+1])++[[a+2],[a+2],[]]
 | true=>g.modify (a - 1) (·++[a])++[[a+1,a+2],[a],[]]
def gS (s:List Bool):List (List Nat):=s.foldl j8d [[]]
def qc6:List Bool->Nat->List Nat
 | [],c=>[c]
 | false::s,c=>c::(c+2)::(c+1)::qc6 s (c+3)
 | true::s,c=>c::(c+1)::(qc6 s (c+3)++[c+2])
def jnj:List Bool->Nat->List Int
 | [],_=>[]
 | false::s,c=>(c:Int)::c::c::jnj s (c+3)
 | true::s,c=>(c:Int)::(c+1:Nat)::(c+1:Nat)::jnj s (c+3)
def jht (s:List Bool):List Int:=-1::jnj s 0
def quf (g:List (List Nat)) (b:Nat):Nat->List Nat
 | 0=>[]
 | k+1=>quf g b k++((g.getD k []).filter (fun x=>x == b)).map (fun _=>k)
def j8e (g:List (List Nat)):List (List Nat):=(List.range g.length).map (fun b=>quf g b g.length)
end Go.Proofs.YtkpadfebkaangaaGreatDoor.Ms
namespace Go.Proofs.YtkpadfebkaangaaGreatDoor.Ev
open Go Go.RowKit Go.Proofs.YtkpadfebkaangaaGreatDoor.Ms
set_option linter.all false
set_option maxRecDepth 100000
def qxa (a:Nat->SV):Nat->List Nat->List (List SV)
 | _,[]=>[]
 | j,t::es=>[si t,a j]::qxa a (j+1) es
def qxb (a:Nat->SV):List Nat->SV
 | []=>.nilSlice
 | t::es=>.lst (qxa a 0 (t::es))
def qc7 (ps is:Nat->SV) (ags:Nat->Nat->SV):Nat->List (List Nat)->List (List SV)
 | _,[]=>[]
 | k,es::g=>[ps k,is k,qxb (ags k) es]::qc7 ps is ags (k+1) g
def qxc (g:List (List Nat)) (v:SV) (ps is:Nat->SV) (ags:Nat->Nat->SV):List SV:=[v,.lst (qc7 ps is ags 0 g)]
def jl3 (n:Int):List SV:=[si n]
def jsu (l:List Nat):List SV:=[jag jaz l]
noncomputable def qxd (fn:FuncId) (extra:List AV) (g:List (List Nat)) (v:SV) (ps is:Nat->SV) (ags:Nat->Nat->SV):Option AV :=
 ob (jpb F7 3000 fn (.agg (qxc g v ps is ags)::extra) h0) (fun p=>jhr true p.2 9 p.1)
theorem jrw {fn:FuncId} {extra:List AV} {g:List (List Nat)} {v:SV} {ps is:Nat->SV} {ags:Nat->Nat->SV} {u:AV} (h:qxd fn extra g v ps is ags=some u):jsp true F7 fn (.agg (qxc g v ps is ags)::extra) u:=by
 obtain⟨p,h1,h2⟩:=jaa.1 h
 exact⟨3000,p.1,p.2,h1,9,h2⟩
def oG (s:List Bool):Prop:=∀ (v:SV) (ps is:Nat->SV) (ags:Nat->Nat->SV),qxd 42 [] (gS s) v ps is ags=some (.s (jag jaz (qc6 s 0)))
def nG (s:List Bool):Prop:=∀ (v:SV) (ps is:Nat->SV) (ags:Nat->Nat->SV),qxd 43 [] (gS s) v ps is ags=some (.s (jag jsu (j8e (gS s))))
def iG (s:List Bool):Prop:=∀ (v:SV) (ps is:Nat->SV) (ags:Nat->Nat->SV),qxd 45 [.s (jag jaz (qc6 s 0))] (gS s) v ps is ags=some (.s (jag jl3 (jht s)))
end Go.Proofs.YtkpadfebkaangaaGreatDoor.Ev
