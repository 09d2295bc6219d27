/- Code of functions as the interpreter has it prepared, cut at loops. -/
import Derived.Test.YtdbklpgagdbpiaaDoorMc11
import Derived.Test.YtdbklpgagdbpiaaDoorVd
namespace Go.Proofs.YtdbklpgagdbpiaaDoor.Ev
open Go Go.RowKit
set_option linter.all false
set_option maxRecDepth 100000
def qfp:IC:=.seq (.block 1 (qr [qP (.ival 2 1 false (.g 4) (.g 6)),qT 3] (qr [qM 3,qP (.bin .lt qa (qC 2)),qP (.mv qa),qR 0 false (.mv (.g 3)),qR 1 false (.bin .gt qa (qC 10)),qQ 2 (.pick qc (.c (.s (.bool true))) qa)] (.cond (.g 2) (qr [qQ 1 (.mv (qC 2))] .ret) .skip)))) (.region [qI 6,qT 6])
def qfq:IC:=qr [qQ 5 (.bin .lt (.g 6) (qC 2))] (.seq (qX 5 0) qfp)
def qqb:IC:=qr [qB 7 (.box 25 (.g 0)),qQ 1 (.mv (qC 0))] (.seq (qr [qF 0 7,qB 4 (.load 2 true qa),qQ 6 (.mv (qC 0))] (.block 0 (.loop qfq))) (qr [qQ 1 (.mv (qC 0))] .ret))
theorem qw7:T 36=some (.mk qqb 1 7 [(.tmp 1)]):=by kernel_rfl
def qfr:IC:=.seq (.block 3 (qr [qP (.ixs 3 (.g 4) (.g 7)),qK 3,qB 3 (.new 59 [.int .i64 0,.nilSlice,.nilSlice]),qA (.store 3 qa qb)] (qr [qF 1 3,qL,qP (.len qa),qP (.bin .gt qa (qC 6)),qP (.mv qa),qR 0 false (.fld 2 (.g 3)),qS 1 false (.load 1 false qa),qR 2 false (.len qa),qR 3 false (.bin .gt qa (qC 20)),qQ 2 (.pick (.l 4) (.c (.s (.bool true))) qa)] (.cond (.g 2) (qr [qQ 1 (.mv (qC 1))] .ret) .skip)))) (.region [qI 7,qT 7])
def j3o:IC:=qr [qQ 5 (.bin .lt (.g 7) (.g 6))] (.seq (qX 5 2) qfr)
def qfs:IC:=qr [qF 1 11,qB 4 (.load 1 false qa),qQ 6 (.len qa),qQ 7 (.mv (qC 0))] (.block 2 (.loop j3o))
def qft:IC:=.seq (qr [qM 9,qF 1 11,qL,qP (.len qa),qP (.bin .add qd qa),qT 9] (qr [qM 9,qQ 8 (.bin .gt qa (qC 160))] (.cond (.g 8) (qr [qQ 1 (.mv (qC 1))] .ret) .skip))) qfs
def qfu:IC:=.seq (.block 1 (qr [qP (.ixs 3 (.g 12) (.g 15)),qK 3,qB 11 (.new 39 [.nilSlice,.nilSlice,.nilSlice]),qA (.store 3 qa qb)] (.seq (qr [qF 0 11,qL,qP (.len qa),qP (.bin .gt qa (qC 5)),qP (.mv qa),qR 0 false (.fld 1 (.g 11)),qS 1 false (.load 1 false qa),qR 2 false (.len qa),qR 3 false (.bin .gt qa (qC 40)),qP (.pick (.l 4) (.c (.s (.bool true))) qa),qP (.mv qa),qR 0 false (.fld 2 (.g 11)),qS 1 false (.load 1 false qa),qR 2 false (.len qa),qR 3 false (.bin .gt qa (qC 3)),qQ 10 (.pick (.l 4) (.c (.s (.bool true))) qa)] (.cond (.g 10) (qr [qQ 1 (.mv (qC 1))] .ret) .skip)) qft))) (.region [qI 15,qT 15])
def j3p:IC:=qr [qQ 13 (.bin .lt (.g 15) (.g 14))] (.seq (qX 13 0) qfu)
def qfv:IC:=qr [qQ 9 (.mv (qC 0))] (.seq (qr [qF 1 17,qB 12 (.load 1 false qa),qQ 14 (.len qa),qQ 15 (.mv (qC 0))] (.block 0 (.loop j3p))) (qr [qQ 1 (.mv (qC 0))] .ret))
def qqc:IC:=qr [qB 17 (.box 29 (.g 0)),qQ 1 (.mv (qC 0))] (.seq (qr [qF 1 17,qL,qP (.len qa),qP (.bin .lt qa (qC 1)),qP (.mv qa),qR 0 false (.fld 1 (.g 17)),qS 1 false (.load 1 false qa),qR 2 false (.len qa),qR 3 false (.bin .gt qa (qC 16)),qP (.pick (.l 4) (.c (.s (.bool true))) qa),qP (.mv qa),qR 0 false (.fld 0 (.g 17)),qS 1 false (.load 1 false qa),qR 2 false (.len qa),qR 3 false (.bin .gt qa (qC 160)),qQ 16 (.pick (.l 4) (.c (.s (.bool true))) qa)] (.cond (.g 16) (qr [qQ 1 (.mv (qC 1))] .ret) .skip)) qfv)
theorem qw8:T 37=some (.mk qqc 1 17 [(.tmp 1)]):=by kernel_rfl
def qfw:IC:=qr [qB 3 (.box 29 (.g 0)),qQ 2 (.mv (.c (.s (.bool false))))] (qr [qM 1,qP (.bin .ge qa (qC 0)),qP (.mv qa),qR 0 true (.mv (.g 1)),qR 1 true (.fld 0 (.g 3)),qS 2 true (.load 1 false qa),qR 3 true (.len qa),qR 4 true (.bin .lt qd qa),qP (.pick (.l 5) qa (.c (.s (.bool false)))),qT 2] .ret)
theorem que:T 56=some (.mk qfw 2 2 [(.tmp 2)]):=by kernel_rfl
def ji4:IC:=.draw [(qF 3 10,.none),(qL,.some []),(qP (.bin .eq qa (qC 4)),.none),(qP (.mv qa),.none),(qR 0 true (.fld 4 (.g 10)),.none),(qS 1 true (.load 1 false qa),.some []),(qR 2 true (.bin .lt qa (qC 0)),.none),(qR 3 true (.mv qa),.none),(qR 0 false (.fld 4 (.g 10)),.none),(qS 1 false (.load 1 false qa),.some []),(qR 2 false (.fld 0 (.g 8)),.none),(qS 3 false (.load 1 false qa),.some [1]),(qR 4 false (.fld 1 (.g 10)),.none),(qS 5 false (.load 1 false qa),.some [1,3]),(qR 6 false (.ixs 1 qc qa),.none),(qS 7 false (.load 1 false qa),.some [5]),(qR 8 false (.fld 0 (.g 6)),.none),(qR 9 false (.ixa 2 1 qa qb),.none),(qS 10 false (.load 1 false qa),.some [8]),(qR 11 false (.bin .ge (.l 9) qa),.none),(qR 16 true (.pick (.l 12) (.c (.s (.bool true))) qa),.none),(qP (.pick (.l 17) qa (.c (.s (.bool false)))),.none),(qT 5,.none)]
def ji5:IC:=.cond (.g 4) (qr [qQ 3 (.mv (qC 4))] .ret) .skip
def ji6:IC:=.cond (.g 9) (qr [qQ 3 (.mv (qC 3))] .ret) (qr [qA (.load 2 true (.g 8)),qF 1 10,qL,qA (.call 56 [qc,qa]),qP (.not qa),qT 7] (.cond (.g 7) (qr [qQ 3 (.mv (qC 2))] .ret) (.seq ji4 (.cond (.g 5) (qr [qQ 3 (.mv (qC 2))] .ret) (.seq (qr [qF 3 10,qL,qP (.bin .le qa (qC 3)),qP (.mv qa),qR 0 true (.fld 4 (.g 10)),qS 1 true (.load 1 false qa),qR 2 true (.bin .ne qa (qC 0)),qP (.pick qd qa (.c (.s (.bool false)))),qT 4] (.cond (.g 4) .skip (.region [qF 3 10,qL,qP (.bin .eq qa (qC 5)),qP (.mv qa),qR 0 true (.fld 0 (.g 10)),qS 1 true (.load 1 false qa),qR 2 true (.bin .ne qa (qC 2)),qR 3 true (.mv qa),qR 0 false (.fld 2 (.g 10)),qS 1 false (.load 1 false qa),qR 2 false (.not qa),qR 7 true (.pick qd (.c (.s (.bool true))) qa),qP (.pick (.l 8) qa (.c (.s (.bool false)))),qT 4]))) ji5)))))
def j9t:IC:=qr [qB 8 (.box 29 (.g 0)),qB 6 (.box 25 (.g 1)),qB 10 (.box 73 (.g 2)),qQ 3 (.mv (qC 0))] (.seq (.block 0 (.seq (qr [qF 0 10,qL,qP (.bin .ne qa (qC 1)),qP (.mv qa),qR 0 true (.fld 0 (.g 10)),qS 1 true (.load 1 false qa),qR 2 true (.bin .ne qa (qC 2)),qP (.pick qd qa (.c (.s (.bool false)))),qT 9] (.cond (.g 9) .skip (.region [qF 3 10,qL,qP (.bin .lt qa (qC 1)),qP (.mv qa),qR 0 false (.fld 3 (.g 10)),qS 1 false (.load 1 false qa),qR 2 false (.bin .gt qa (qC 5)),qP (.pick qd (.c (.s (.bool true))) qa),qT 9]))) ji6)) (qr [qQ 3 (.mv (qC 0))] .ret))
theorem qqd:T 51=some (.mk j9t 3 8 [(.tmp 3)]):=by kernel_rfl
def j3q:IC:=.draw [(qF 0 5,.none),(qL,.some []),(qF 1 7,.none),(qL,.some [1]),(qP (.ixs 1 qc qa),.none),(qL,.some []),(qF 0 5,.none),(qL,.some [1,3,5]),(qF 1 10,.none),(qL,.some [1,3,5,7]),(qP (.ixs 1 qc qa),.none),(qL,.some [5,7,9]),(qQ 4 (.bin .ne (.l 6) qa),.none)]
def j3r:IC:=qr [qQ 3 (.mv (qC 0))] .ret
def j3s:IC:=.seq (.seq j3q (.cond (.g 4) (qr [qQ 3 (.mv (qC 17))] .ret) .skip)) j3r
def j3t:IC:=qr [qF 1 9,qL,qF 4 10,qL,qP (.ixs 5 qc qa),qK 5,qB 7 (.new 73 [.int .i64 0,.int .i64 0,.bool false,.int .i64 0,.int .i64 0]),qA (.store 5 qa qb)] (.seq (qr [qF 0 7,qL,qP (.bin .ne qa (qC 1)),qP (.mv qa),qR 0 false (.fld 2 (.g 7)),qS 1 false (.load 1 false qa),qQ 6 (.pick qc (.c (.s (.bool true))) qa)] (.cond (.g 6) (qr [qQ 3 (.mv (qC 4))] .ret) .skip)) j3s)
def j9u:IC:=qr [qB 5 (.box 29 (.g 0)),qB 9 (.box 59 (.g 1)),qB 10 (.box 73 (.g 2)),qQ 3 (.mv (qC 0))] (.seq (qr [qF 4 10,qL,qP (.bin .lt qa (qC 0)),qP (.mv qa),qR 0 false (.fld 4 (.g 10)),qS 1 false (.load 1 false qa),qR 2 false (.fld 1 (.g 9)),qS 3 false (.load 1 false qa),qR 4 false (.len qa),qR 5 false (.bin .ge qd qa),qQ 8 (.pick (.l 6) (.c (.s (.bool true))) qa)] (.cond (.g 8) (qr [qQ 3 (.mv (qC 6))] .ret) .skip)) j3t)
theorem qqe:T 52=some (.mk j9u 3 8 [(.tmp 3)]):=by kernel_rfl
def j3u:IC:=.draw [(qF 0 7,.none),(qL,.some []),(qP (.bin .lt qa (qC 0)),.none),(qP (.mv qa),.none),(qR 0 false (.fld 0 (.g 7)),.none),(qS 1 false (.load 1 false qa),.some []),(qR 2 false (.bin .ge qa (qC 2)),.none),(qP (.pick qd (.c (.s (.bool true))) qa),.none),(qP (.mv qa),.none),(qR 0 false (.fld 1 (.g 7)),.none),(qS 1 false (.load 1 false qa),.some []),(qR 2 false (.bin .lt qa (qC 0)),.none),(qP (.pick qd (.c (.s (.bool true))) qa),.none),(qP (.mv qa),.none),(qR 0 false (.fld 1 (.g 7)),.none),(qS 1 false (.load 1 false qa),.some []),(qR 2 false (.fld 0 (.g 7)),.none),(qS 3 false (.load 1 false qa),.some [1]),(qR 4 false (.fld 0 (.g 6)),.none),(qR 5 false (.ixa 2 1 qa qb),.none),(qS 6 false (.load 1 false qa),.some [4]),(qR 7 false (.bin .ge (.l 5) qa),.none),(qQ 5 (.pick (.l 8) (.c (.s (.bool true))) qa),.none)]
def jvy:IC:=.draw [(qM 4,.none),(qP (.bin .gt qa (qC 0)),.none),(qP (.mv qa),.none),(qR 0 true (.mv (.g 1)),.none),(qR 1 true (.mv (.g 4)),.none),(qR 2 true (.bin .sub qa (qC 1)),.none),(qR 3 true (.ixs 2 qc qa),.none),(qR 4 true (.fld 0 qa),.none),(qS 5 true (.load 1 false qa),.some []),(qR 6 true (.fld 0 (.g 7)),.none),(qS 7 true (.load 1 false qa),.some [1]),(qR 8 true (.bin .gt qc qa),.none),(qR 9 true (.mv qa),.none),(qR 0 false (.mv (.g 1)),.none),(qR 1 false (.mv (.g 4)),.none),(qR 2 false (.bin .sub qa (qC 1)),.none),(qR 3 false (.ixs 2 qc qa),.none),(qR 4 false (.fld 0 qa),.none),(qS 5 false (.load 1 false qa),.some []),(qR 6 false (.fld 0 (.g 7)),.none),(qS 7 false (.load 1 false qa),.some [1]),(qR 8 false (.bin .eq qc qa),.none),(qR 9 false (.mv qa),.none),(qR 0 true (.mv (.g 1)),.none),(qR 1 true (.mv (.g 4)),.none),(qR 2 true (.bin .sub qa (qC 1)),.none),(qR 3 true (.ixs 2 qc qa),.none),(qR 4 true (.fld 1 qa),.none),(qS 5 true (.load 1 false qa),.some []),(qR 6 true (.fld 1 (.g 7)),.none),(qS 7 true (.load 1 false qa),.some [1]),(qR 8 true (.bin .ge qc qa),.none),(qR 19 false (.pick (.l 9) qa (.c (.s (.bool false)))),.none),(qR 30 true (.pick (.l 20) (.c (.s (.bool true))) qa),.none),(qQ 3 (.pick (.l 31) qa (.c (.s (.bool false)))),.none)]
def jvz:IC:=.seq jvy (.cond (.g 3) (qr [qQ 2 (.mv (qC 4))] .ret) .skip)
def j3v:IC:=.seq (.block 1 (qr [qM 11,qP (.ixs 2 (.g 8) (.g 11)),qK 2,qB 7 (.new 76 [.int .i64 0,.int .i64 0]),qQ 4 (.mv qd),qA (.store 2 qb qc)] (.seq (.seq j3u (.cond (.g 5) (qr [qQ 2 (.mv (qC 2))] .ret) .skip)) jvz))) (.region [qI 11,qT 11])
def joe:IC:=qr [qQ 9 (.bin .lt (.g 11) (.g 10))] (.seq (qX 9 0) j3v)
def j9v:IC:=qr [qB 6 (.box 25 (.g 0)),qQ 2 (.mv (qC 0))] (.seq (qr [qQ 8 (.mv (.g 1)),qQ 10 (.len qa),qQ 11 (.mv (qC 0))] (.block 0 (.loop joe))) (qr [qQ 2 (.mv (qC 0))] .ret))
theorem qqf:T 53=some (.mk j9v 2 10 [(.tmp 2)]):=by kernel_rfl
def j1n:IC:=qr [qB 7 (.box 73 (.g 0)),qB 6 (.box 73 (.g 1)),qQ 2 (.mv (.c (.s (.bool false))))] (.seq (.block 0 (qr [qF 0 7,qL,qP (.bin .eq qa (qC 1)),qP (.mv qa),qR 0 true (.fld 0 (.g 6)),qS 1 true (.load 1 false qa),qR 2 true (.bin .eq qa (qC 1)),qP (.pick qd qa (.c (.s (.bool false)))),qT 5] (.cond (.g 5) (qr [qF 1 7,qL,qF 1 6,qL,qP (.bin .ne qc qa),qT 2] .ret) (qr [qF 0 7,qL,qP (.bin .eq qa (qC 2)),qP (.mv qa),qR 0 true (.fld 0 (.g 6)),qS 1 true (.load 1 false qa),qR 2 true (.bin .eq qa (qC 2)),qP (.pick qd qa (.c (.s (.bool false)))),qT 4] (.cond (.g 4) (qr [qQ 2 (.mv (.c (.s (.bool true))))] .ret) (qr [qF 0 7,qL,qP (.bin .eq qa (qC 2)),qT 3] (.cond (.g 3) (qr [qA (.load 5 true (.g 6)),qA (.load 5 true (.g 7)),qA (.call 68 [qb,qa]),qT 2] .ret) .skip))))))) (qr [qF 2 7,qL,qP (.mv qa),qR 0 false (.fld 2 (.g 6)),qS 1 false (.load 1 false qa),qR 2 false (.not qa),qP (.pick qd (.c (.s (.bool true))) qa),qT 2] .ret))
theorem qfx:T 68=some (.mk j1n 2 6 [(.tmp 2)]):=by kernel_rfl
def j3w:IC:=.draw [(qF 0 4,.none),(qL,.some []),(qF 1 9,.none),(qL,.some [1]),(qP (.ixs 1 qc qa),.none),(qL,.some []),(qF 4 9,.none),(qL,.some [1,3,5]),(qP (.build [.int .i64 0,.int .i64 0] [(0,(1,qc)),(1,(1,qa))]),.none),(qA (.store 2 (.g 5) qa),.none),(qQ 3 (.mv (.c (.s (.bool true)))),.none)]
def j3x:IC:=.seq j3w .ret
def jv0:IC:=.seq (qr [qF 3 9,qL,qQ 6 (.bin .ne qa (qC 4))] (.cond (.g 6) (qr [qP (.build [.int .i64 0,.int .i64 0] []),qA (.store 2 (.g 5) qa),qQ 3 (.mv (.c (.s (.bool false))))] .ret) .skip)) j3x
def j9w:IC:=qr [qB 4 (.box 29 (.g 0)),qB 7 (.box 59 (.g 1)),qB 9 (.box 73 (.g 2)),qB 5 (.new 76 [.int .i64 0,.int .i64 0]),qQ 3 (.mv (.c (.s (.bool false))))] (.seq (qr [qF 3 9,qL,qQ 8 (.bin .eq qa (qC 5))] (.cond (.g 8) (.region [qF 1 7,qL,qF 4 9,qL,qP (.ixs 5 qc qa),qK 5,qA (.store 5 (.g 9) qa)]) .skip)) jv0)
theorem qqg:T 66=some (.mk j9w 3 7 [(.cell 5 2 true),(.tmp 3)]):=by kernel_rfl
def jhs:IC:=qr [qF 3 19,qL,qP (.bin .eq qa (qC 5)),qP (.mv qa),qR 0 true (.fld 4 (.g 19)),qS 1 true (.load 1 false qa),qR 2 true (.mv (.g 7)),qR 3 true (.bin .eq qb qa),qP (.pick (.l 4) qa (.c (.s (.bool false)))),qP (.mv qa),qR 0 false (.fld 3 (.g 9)),qS 1 false (.load 1 false qa),qR 2 false (.bin .eq qa (qC 5)),qR 3 false (.mv qa),qR 0 true (.fld 4 (.g 9)),qS 1 true (.load 1 false qa),qR 2 true (.mv (.g 14)),qR 3 true (.bin .eq qb qa),qR 8 false (.pick (.l 4) qa (.c (.s (.bool false)))),qP (.pick (.l 9) (.c (.s (.bool true))) qa),qT 4] (qr [qM 18,qP (.mv qa),qR 0 true (.mv (.g 6)),qP (.pick qb qa (.c (.s (.bool false)))),qP (.mv qa),qS 0 true (.load 2 true (.g 5)),qS 1 true (.load 2 true (.g 17)),qR 2 true (.eqv false true [false,false] qb qa),qP (.pick qd qa (.c (.s (.bool false)))),qP (.mv qa),qS 0 true (.load 5 true (.g 19)),qS 1 true (.load 5 true (.g 9)),qS 2 true (.call 68 [qb,qa]),qP (.pick qd qa (.c (.s (.bool false)))),qP (.mv qa),qR 0 true (.mv (.g 4)),qR 1 true (.not qa),qQ 3 (.pick qc qa (.c (.s (.bool false))))] (.cond (.g 3) (qr [qQ 2 (.mv (.c (.s (.bool true))))] .ret) .skip))
def j9x:IC:=.seq (.block 3 (qr [qM 13,qP (.ixs 5 (.g 10) (.g 13)),qK 5,qB 9 (.new 73 [.int .i64 0,.int .i64 0,.bool false,.int .i64 0,.int .i64 0]),qQ 7 (.mv qd),qA (.store 5 qb qc)] (qr [qA (.load 2 true (.g 20)),qA (.load 3 true (.g 25)),qA (.load 5 true (.g 9)),qA (.call 66 [qc,qb,qa]),qP (.mv qa),qP (.ext 0 qa),qP (.ext 1 qb),qB 5 (.new 76 [.int .i64 0,.int .i64 0]),qA (.store 2 qa qc),qQ 6 (.mv qc)] (.seq (qr [qF 3 19,qL,qP (.bin .eq qa (qC 5)),qP (.mv qa),qR 0 true (.fld 3 (.g 9)),qS 1 true (.load 1 false qa),qR 2 true (.bin .eq qa (qC 5)),qP (.pick qd qa (.c (.s (.bool false)))),qP (.mv qa),qR 0 true (.fld 4 (.g 19)),qS 1 true (.load 1 false qa),qR 2 true (.fld 4 (.g 9)),qS 3 true (.load 1 false qa),qR 4 true (.bin .eq qc qa),qQ 8 (.pick (.l 5) qa (.c (.s (.bool false))))] (.cond (.g 8) (qr [qQ 2 (.mv (.c (.s (.bool true))))] .ret) .skip)) jhs)))) (.region [qI 13,qT 13])
def jre:IC:=qr [qQ 11 (.bin .lt (.g 13) (.g 12))] (.seq (qX 11 2) j9x)
def j1o:IC:=qr [qF 1 25,qL,qM 14,qQ 10 (.slice 5 qb .none (.some qa)),qQ 12 (.len qa),qQ 13 (.mv (qC 0))] (.block 2 (.loop jre))
def j9y:IC:=.seq (qr [qM 18,qP (.mv qa),qR 0 true (.fld 0 (.g 19)),qS 1 true (.load 1 false qa),qR 2 true (.bin .eq qa (qC 2)),qP (.pick qd qa (.c (.s (.bool false)))),qP (.mv qa),qR 0 true (.fld 2 (.g 19)),qS 1 true (.load 1 false qa),qR 2 true (.not qa),qP (.pick qd qa (.c (.s (.bool false)))),qP (.mv qa),qR 0 true (.fld 2 (.g 25)),qS 1 true (.load 1 false qa),qS 2 true (.load 2 true (.g 17)),qS 3 true (.call 67 [qb,qa]),qQ 15 (.pick (.l 4) qa (.c (.s (.bool false))))] (.cond (.g 15) (qr [qQ 2 (.mv (.c (.s (.bool true))))] .ret) .skip)) j1o
def j9z:IC:=.seq (.block 1 (qr [qM 24,qP (.ixs 5 (.g 21) (.g 24)),qK 5,qB 19 (.new 73 [.int .i64 0,.int .i64 0,.bool false,.int .i64 0,.int .i64 0]),qQ 14 (.mv qd),qA (.store 5 qb qc)] (qr [qA (.load 2 true (.g 20)),qA (.load 3 true (.g 25)),qA (.load 5 true (.g 19)),qA (.call 66 [qc,qb,qa]),qP (.mv qa),qP (.ext 0 qa),qP (.ext 1 qb),qB 17 (.new 76 [.int .i64 0,.int .i64 0]),qA (.store 2 qa qc),qQ 18 (.mv qc)] (.seq (qr [qM 18,qP (.mv qa),qR 0 true (.fld 2 (.g 19)),qS 1 true (.load 1 false qa),qP (.pick qc qa (.c (.s (.bool false)))),qP (.mv qa),qR 0 true (.fld 2 (.g 25)),qS 1 true (.load 1 false qa),qS 2 true (.load 2 true (.g 17)),qS 3 true (.call 67 [qb,qa]),qQ 16 (.pick (.l 4) qa (.c (.s (.bool false))))] (.cond (.g 16) (qr [qQ 2 (.mv (.c (.s (.bool true))))] .ret) .skip)) j9y)))) (.region [qI 24,qT 24])
def jrf:IC:=qr [qQ 22 (.bin .lt (.g 24) (.g 23))] (.seq (qX 22 0) j9z)
def qfy:IC:=qr [qB 20 (.box 29 (.g 0)),qB 25 (.box 59 (.g 1)),qQ 2 (.mv (.c (.s (.bool false))))] (.seq (qr [qF 1 25,qB 21 (.load 1 false qa),qQ 23 (.len qa),qQ 24 (.mv (qC 0))] (.block 0 (.loop jrf))) (qr [qQ 2 (.mv (.c (.s (.bool false))))] .ret))
theorem quf:T 54=some (.mk qfy 2 24 [(.tmp 2)]):=by kernel_rfl
def qfz:IC:=.seq (.block 1 (qr [qP (.ixs 2 (.g 16) (.g 19)),qK 2,qB 15 (.new 76 [.int .i64 0,.int .i64 0]),qA (.store 2 qa qb)] (qr [qF 0 15,qL,qM 3,qQ 14 (.bin .eq qb qa)] (.cond (.g 14) (.region [qM 13,qP (.bin .add qa (qC 1)),qT 13]) .skip)))) (.region [qI 19,qT 19])
def j3y:IC:=qr [qQ 17 (.bin .lt (.g 19) (.g 18))] (.seq (qX 17 0) qfz)
def qf0:IC:=.seq (.block 3 (qr [qP (.ixs 5 (.g 9) (.g 12)),qK 5,qB 7 (.new 73 [.int .i64 0,.int .i64 0,.bool false,.int .i64 0,.int .i64 0]),qA (.store 5 qa qb)] (qr [qF 0 8,qL,qF 1 7,qL,qP (.ixs 1 qc qa),qL,qM 3,qP (.bin .eq qb qa),qP (.mv qa),qR 0 true (.fld 3 (.g 7)),qS 1 true (.load 1 false qa),qR 2 true (.bin .ne qa (qC 1)),qP (.pick qd qa (.c (.s (.bool false)))),qP (.mv qa),qR 0 true (.fld 3 (.g 7)),qS 1 true (.load 1 false qa),qR 2 true (.bin .ne qa (qC 3)),qQ 6 (.pick qd qa (.c (.s (.bool false))))] (.cond (.g 6) (.region [qM 13,qP (.bin .add qa (qC 1)),qT 13]) .skip)))) (.region [qI 12,qT 12])
def jyo:IC:=qr [qQ 10 (.bin .lt (.g 12) (.g 11))] (.seq (qX 10 2) qf0)
def qqh:IC:=qr [qB 8 (.box 29 (.g 0)),qB 5 (.box 25 (.g 1)),qB 20 (.box 59 (.g 2)),qQ 4 (.mv (.c (.s (.bool false))))] (qr [qQ 13 (.mv (qC 0))] (.seq (qr [qF 2 20,qB 16 (.load 1 false qa),qQ 18 (.len qa),qQ 19 (.mv (qC 0))] (.block 0 (.loop j3y))) (.seq (qr [qF 1 20,qB 9 (.load 1 false qa),qQ 11 (.len qa),qQ 12 (.mv (qC 0))] (.block 2 (.loop jyo))) (qr [qM 13,qM 3,qF 0 5,qP (.ixa 2 1 qa qb),qL,qP (.bin .lt (.l 4) qa),qT 4] .ret))))
theorem qw9:T 55=some (.mk qqh 4 17 [(.tmp 4)]):=by kernel_rfl
def j90:IC:=.seq (.block 1 (qr [qP (.ixs 5 (.g 24) (.g 27)),qK 5,qB 21 (.new 73 [.int .i64 0,.int .i64 0,.bool false,.int .i64 0,.int .i64 0]),qA (.store 5 qa qb)] (qr [qA (.load 2 true (.g 23)),qA (.load 2 true (.g 22)),qA (.load 5 true (.g 21)),qA (.call 51 [qc,qb,qa]),qT 20] (qr [qM 20,qQ 19 (.bin .ne qa (qC 0))] (.cond (.g 19) (qr [qM 20,qT 3] .ret) .skip))))) (.region [qI 27,qT 27])
def jv1:IC:=qr [qQ 25 (.bin .lt (.g 27) (.g 26))] (.seq (qX 25 0) j90)
def j91:IC:=qr [qA (.load 2 true (.g 23)),qA (.load 3 true (.g 29)),qA (.load 5 true (.g 14)),qA (.call 52 [qc,qb,qa]),qT 12] (qr [qM 12,qQ 11 (.bin .ne qa (qC 0))] (.cond (.g 11) (qr [qM 12,qT 3] .ret) .skip))
def j92:IC:=.seq (.block 3 (qr [qP (.ixs 5 (.g 15) (.g 18)),qK 5,qB 14 (.new 73 [.int .i64 0,.int .i64 0,.bool false,.int .i64 0,.int .i64 0]),qA (.store 5 qa qb)] (.seq (qr [qF 3 14,qL,qQ 13 (.bin .ne qa (qC 5))] (.cond (.g 13) (.exit 3) .skip)) j91))) (.region [qI 18,qT 18])
def jrg:IC:=qr [qQ 16 (.bin .lt (.g 18) (.g 17))] (.seq (qX 16 2) j92)
def j93:IC:=.seq (.block 5 (qr [qM 7,qT 5] (qr [qA (.load 2 true (.g 23)),qA (.load 2 true (.g 22)),qA (.load 3 true (.g 29)),qM 5,qA (.call 55 [qd,qc,qb,qa]),qQ 4 (.not qa)] (.cond (.g 4) (qr [qQ 3 (.mv (qC 8))] .ret) .skip)))) (.region [qI 7,qT 7])
def j94:IC:=qr [qQ 6 (.bin .lt (.g 7) (qC 2))] (.seq (qX 6 4) j93)
def j95:IC:=.seq (qr [qQ 7 (.mv (qC 0))] (.block 4 (.loop j94))) (qr [qQ 3 (.mv (qC 0))] .ret)
def j96:IC:=.seq (qr [qA (.load 2 true (.g 23)),qA (.load 3 true (.g 29)),qB 8 (.call 54 [qb,qa])] (.cond (.g 8) (qr [qQ 3 (.mv (qC 12))] .ret) .skip)) j95
def j97:IC:=.seq (qr [qF 1 29,qB 24 (.load 1 false qa),qQ 26 (.len qa),qQ 27 (.mv (qC 0))] (.block 0 (.loop jv1))) (.seq (qr [qF 1 29,qB 15 (.load 1 false qa),qQ 17 (.len qa),qQ 18 (.mv (qC 0))] (.block 2 (.loop jrg))) (.seq (qr [qA (.load 2 true (.g 22)),qF 2 29,qL,qA (.call 53 [qc,qa]),qT 10] (qr [qM 10,qQ 9 (.bin .ne qa (qC 0))] (.cond (.g 9) (qr [qM 10,qT 3] .ret) .skip))) j96))
def qf1:IC:=qr [qB 23 (.box 29 (.g 0)),qB 22 (.box 25 (.g 1)),qB 29 (.box 59 (.g 2)),qQ 3 (.mv (qC 0))] (.seq (qr [qF 0 29,qL,qP (.bin .lt qa (qC 0)),qP (.mv qa),qR 0 false (.fld 0 (.g 29)),qS 1 false (.load 1 false qa),qR 2 false (.bin .gt qa (qC 255)),qQ 28 (.pick qd (.c (.s (.bool true))) qa)] (.cond (.g 28) (qr [qQ 3 (.mv (qC 2))] .ret) .skip)) j97)
theorem qug:T 38=some (.mk qf1 3 27 [(.tmp 3)]):=by kernel_rfl
def j3z:IC:=.draw [(qA (.load 2 true (.g 14)),.some []),(qM 12,.none),(qM 4,.none),(qP (.ixs 1 qb qa),.none),(qL,.some [3]),(qA (.call 56 [.l 4,qa]),.some []),(qP (.not qa),.none),(qP (.mv qa),.none),(qR 0 false (.fld 0 (.g 14)),.none),(qS 1 false (.load 1 false qa),.some []),(qR 2 false (.mv (.g 12)),.none),(qR 3 false (.mv (.g 4)),.none),(qR 4 false (.ixs 1 qb qa),.none),(qS 5 false (.load 1 false qa),.some [3]),(qR 6 false (.ixs 1 (.l 4) qa),.none),(qS 7 false (.load 1 false qa),.some []),(qR 8 false (.fld 0 (.g 14)),.none),(qS 9 false (.load 1 false qa),.some [1,3,7]),(qR 10 false (.mv (.g 6)),.none),(qR 11 false (.ixs 1 qb qa),.none),(qS 12 false (.load 1 false qa),.some [4,6,10]),(qR 13 false (.bin .ne (.l 5) qa),.none),(qQ 3 (.pick (.l 14) (.c (.s (.bool true))) qa),.none)]
def j30:IC:=.seq j3z (.cond (.g 3) (qr [qQ 2 (.mv (qC 17))] .ret) .skip)
def j31:IC:=.seq (.block 1 (qr [qM 10,qP (.ixs 1 (.g 7) (.g 10)),qL,qQ 4 (.mv qc),qQ 6 (.mv qb)] (.seq (qr [qA (.load 2 true (.g 14)),qM 6,qA (.call 56 [qb,qa]),qQ 5 (.not qa)] (.cond (.g 5) (qr [qQ 2 (.mv (qC 2))] .ret) .skip)) j30))) (.region [qI 10,qT 10])
def jof:IC:=qr [qQ 8 (.bin .lt (.g 10) (.g 9))] (.seq (qX 8 0) j31)
def j32:IC:=.seq (qr [qF 1 15,qB 7 (.load 1 false qa),qQ 9 (.len qa),qQ 10 (.mv (qC 0))] (.block 0 (.loop jof))) (qr [qQ 2 (.mv (qC 0))] .ret)
def j33:IC:=qr [qF 1 14,qL,qF 0 15,qL,qP (.ixs 3 qc qa),qG 0,qL,qT 12] (.seq (qr [qF 1 15,qL,qP (.len qa),qM 12,qP (.len qa),qQ 11 (.bin .ne qc qa)] (.cond (.g 11) (qr [qQ 2 (.mv (qC 4))] .ret) .skip)) j32)
def j98:IC:=qr [qB 14 (.box 29 (.g 0)),qB 15 (.box 62 (.g 1)),qQ 2 (.mv (qC 0))] (.seq (qr [qF 0 15,qL,qP (.bin .lt qa (qC 1)),qP (.mv qa),qR 0 false (.fld 0 (.g 15)),qS 1 false (.load 1 false qa),qR 2 false (.fld 1 (.g 14)),qS 3 false (.load 1 false qa),qR 4 false (.len qa),qR 5 false (.bin .ge qd qa),qQ 13 (.pick (.l 6) (.c (.s (.bool true))) qa)] (.cond (.g 13) (qr [qQ 2 (.mv (qC 6))] .ret) .skip)) j33)
theorem qqi:T 39=some (.mk j98 2 14 [(.tmp 2)]):=by kernel_rfl
def j99:IC:=.seq (.block 3 (qr [qP (.ixs 1 (.g 20) (.g 23)),qL,qT 18] (qr [qM 19,qM 18,qA (.callv qb [qa]),qT 17] (qr [qM 17,qQ 16 (.bin .ne qa (qC 0))] (.cond (.g 16) (qr [qM 17,qT 1] .ret) .skip))))) (.region [qI 23,qT 23])
def jv2:IC:=qr [qQ 21 (.bin .lt (.g 23) (.g 22))] (.seq (qX 21 2) j99)
def qaa:IC:=qr [qM 19,qF 1 6,qL,qA (.callv qc [qa]),qT 4] (qr [qM 4,qQ 3 (.bin .ne qa (qC 0))] (.cond (.g 3) (qr [qM 4,qT 1] .ret) .skip))
def qab:IC:=.seq (.block 7 (qr [qP (.ixs 5 (.g 7) (.g 10)),qK 5,qB 6 (.new 73 [.int .i64 0,.int .i64 0,.bool false,.int .i64 0,.int .i64 0]),qA (.store 5 qa qb)] (.seq (qr [qF 0 6,qL,qQ 5 (.bin .ne qa (qC 2))] (.cond (.g 5) (.exit 7) .skip)) qaa))) (.region [qI 10,qT 10])
def jv3:IC:=qr [qQ 8 (.bin .lt (.g 10) (.g 9))] (.seq (qX 8 6) qab)
def qac:IC:=.seq (.block 5 (qr [qP (.ixs 3 (.g 12) (.g 15)),qK 3,qB 11 (.new 59 [.int .i64 0,.nilSlice,.nilSlice]),qA (.store 3 qa qb)] (qr [qF 1 11,qB 7 (.load 1 false qa),qQ 9 (.len qa),qQ 10 (.mv (qC 0))] (.block 6 (.loop jv3))))) (.region [qI 15,qT 15])
def jv4:IC:=qr [qQ 13 (.bin .lt (.g 15) (.g 14))] (.seq (qX 13 4) qac)
def qad:IC:=.seq (.block 1 (qr [qP (.ixs 3 (.g 25) (.g 28)),qK 3,qB 24 (.new 39 [.nilSlice,.nilSlice,.nilSlice]),qA (.store 3 qa qb)] (.seq (qr [qF 0 24,qB 20 (.load 1 false qa),qQ 22 (.len qa),qQ 23 (.mv (qC 0))] (.block 2 (.loop jv2))) (qr [qF 1 24,qB 12 (.load 1 false qa),qQ 14 (.len qa),qQ 15 (.mv (qC 0))] (.block 4 (.loop jv4)))))) (.region [qI 28,qT 28])
def jv5:IC:=qr [qQ 26 (.bin .lt (.g 28) (.g 27))] (.seq (qX 26 0) qad)
def qae:IC:=qr [qQ 1 (.mv (qC 0))] .ret
def qf2:IC:=qr [qB 30 (.box 29 (.g 0)),qQ 1 (.mv (qC 0))] (qr [qF 0 30,qL,qP (.len qa),qA (.mkslice 4 1 1 [.bool false] qa qa),qB 29 (.new 100 [.nilSlice]),qA (.store 1 qa qb)] (qr [qP (.mkfun 57 [.g 30,.g 29]),qT 19] (.seq (qr [qF 1 30,qB 25 (.load 1 false qa),qQ 27 (.len qa),qQ 28 (.mv (qC 0))] (.block 0 (.loop jv5))) (.seq (qr [qA (.load 1 false (.g 29)),qB 2 (.call 58 [qa,.c (.s (.bool false))])] (.cond (.g 2) (qr [qQ 1 (.mv (qC 6))] .ret) .skip)) qae))))
theorem quh:T 40=some (.mk qf2 1 30 [(.tmp 1)]):=by kernel_rfl
def qaf:IC:=qr [qA (.load 1 false (.g 2)),qM 0,qP (.ixs 1 qb qa),qA (.store 1 qa (.c (.s (.bool true))))] (qr [qQ 3 (.mv (qC 0))] .ret)
def qag:IC:=.seq (qr [qA (.load 1 false (.g 2)),qM 0,qP (.ixs 1 qb qa),qB 4 (.load 1 false qa)] (.cond (.g 4) (qr [qQ 3 (.mv (qC 7))] .ret) .skip)) qaf
def qf3:IC:=qr [qQ 3 (.mv (qC 0))] (.seq (qr [qA (.load 2 true (.g 1)),qM 0,qA (.call 56 [qb,qa]),qQ 5 (.not qa)] (.cond (.g 5) (qr [qQ 3 (.mv (qC 2))] .ret) .skip)) qag)
theorem qui:T 57=some (.mk qf3 3 3 [(.tmp 3)]):=by kernel_rfl
def qah:IC:=.seq (.block 1 (qr [qP (.ixs 1 (.g 26) (.g 29)),qL,qT 25] (qr [qM 25,qP (.bin .lt qa (qC 0)),qP (.mv qa),qR 0 false (.mv (.g 25)),qR 1 false (.bin .ge qa (qC 2)),qQ 24 (.pick qc (.c (.s (.bool true))) qa)] (.cond (.g 24) (qr [qQ 2 (.mv (qC 17))] .ret) .skip)))) (.region [qI 29,qT 29])
def jv6:IC:=qr [qQ 27 (.bin .lt (.g 29) (.g 28))] (.seq (qX 27 0) qah)
def qai:IC:=.seq (.block 5 (qr [qP (.ixs 3 (.g 14) (.g 17)),qK 3,qB 13 (.new 59 [.int .i64 0,.nilSlice,.nilSlice]),qA (.store 3 qa qb)] (qr [qA (.load 2 true (.g 32)),qA (.load 2 true (.g 35)),qA (.load 3 true (.g 13)),qA (.call 38 [qc,qb,qa]),qT 12] (qr [qM 12,qQ 11 (.bin .ne qa (qC 0))] (.cond (.g 11) (qr [qM 12,qT 2] .ret) .skip))))) (.region [qI 17,qT 17])
def jv7:IC:=qr [qQ 15 (.bin .lt (.g 17) (.g 16))] (.seq (qX 15 4) qai)
def qaj:IC:=.seq (.block 7 (qr [qP (.ixs 2 (.g 6) (.g 9)),qK 2,qB 5 (.new 62 [.int .i64 0,.nilSlice]),qA (.store 2 qa qb)] (qr [qA (.load 2 true (.g 32)),qA (.load 2 true (.g 5)),qA (.call 39 [qb,qa]),qT 4] (qr [qM 4,qQ 3 (.bin .ne qa (qC 0))] (.cond (.g 3) (qr [qM 4,qT 2] .ret) .skip))))) (.region [qI 9,qT 9])
def jv8:IC:=qr [qQ 7 (.bin .lt (.g 9) (.g 8))] (.seq (qX 7 6) qaj)
def j1p:IC:=qr [qF 2 18,qB 6 (.load 1 false qa),qQ 8 (.len qa),qQ 9 (.mv (qC 0))] (.block 6 (.loop jv8))
def qak:IC:=.seq (.block 3 (qr [qP (.ixs 3 (.g 19) (.g 22)),qK 3,qB 18 (.new 39 [.nilSlice,.nilSlice,.nilSlice]),qA (.store 3 qa qb)] (.seq (qr [qF 1 18,qB 14 (.load 1 false qa),qQ 16 (.len qa),qQ 17 (.mv (qC 0))] (.block 4 (.loop jv7))) (.seq (qr [qF 2 18,qL,qP (.len qa),qP (.bin .gt qa (qC 1)),qP (.mv qa),qR 0 true (.fld 1 (.g 18)),qS 1 true (.load 1 false qa),qR 2 true (.len qa),qR 3 true (.bin .eq qa (qC 0)),qQ 10 (.pick (.l 4) qa (.c (.s (.bool false))))] (.cond (.g 10) (qr [qQ 2 (.mv (qC 4))] .ret) .skip)) j1p)))) (.region [qI 22,qT 22])
def jv9:IC:=qr [qQ 20 (.bin .lt (.g 22) (.g 21))] (.seq (qX 20 2) qak)
def qal:IC:=.seq (qr [qF 1 32,qB 19 (.load 1 false qa),qQ 21 (.len qa),qQ 22 (.mv (qC 0))] (.block 2 (.loop jv9))) (qr [qA (.load 2 true (.g 32)),qA (.call 40 [qa]),qT 2] .ret)
def qam:IC:=.seq (qr [qF 0 32,qB 26 (.load 1 false qa),qQ 28 (.len qa),qQ 29 (.mv (qC 0))] (.block 0 (.loop jv6))) (.seq (qr [qF 1 32,qL,qP (.ixs 3 qa (qC 0)),qG 0,qL,qP (.len qa),qQ 23 (.bin .gt qa (qC 0))] (.cond (.g 23) (qr [qQ 2 (.mv (qC 4))] .ret) .skip)) qal)
def qan:IC:=.seq (qr [qA (.load 2 true (.g 32)),qA (.call 37 [qa]),qT 31] (qr [qM 31,qQ 30 (.bin .ne qa (qC 0))] (.cond (.g 30) (qr [qM 31,qT 2] .ret) .skip))) qam
def qf4:IC:=qr [qB 32 (.box 29 (.g 0)),qB 35 (.box 25 (.g 1)),qQ 2 (.mv (qC 0))] (.seq (qr [qA (.load 2 true (.g 35)),qA (.call 36 [qa]),qT 34] (qr [qM 34,qQ 33 (.bin .ne qa (qC 0))] (.cond (.g 33) (qr [qM 34,qT 2] .ret) .skip))) qan)
theorem quj:T 28=some (.mk qf4 2 34 [(.tmp 2)]):=by kernel_rfl
def qf5:IC:=qr [qB 3 (.box 76 (.g 1)),qQ 2 (.mv (.c (.s (.bool false))))] (qr [qM 0,qA (.load 2 true (.g 3)),qA (.call 74 [qb,qa]),qP (.bin .ge qa (qC 0)),qT 2] .ret)
theorem quk:T 67=some (.mk qf5 2 2 [(.tmp 2)]):=by kernel_rfl
def j34:IC:=.draw [(qA (.load 2 true (.g 5)),.some []),(qM 0,.none),(qM 4,.none),(qP (.ixs 2 qb qa),.none),(qK 2,.some [3]),(qQ 3 (.eqv false true [false,false] (.l 4) qa),.none)]
def j35:IC:=.seq (.block 1 (qr [qM 8,qT 4] (.seq j34 (.cond (.g 3) (qr [qM 4,qT 2] .ret) .skip)))) (.region [qI 8,qT 8])
def jog:IC:=qr [qQ 6 (.bin .lt (.g 8) (.g 7))] (.seq (qX 6 0) j35)
def qao:IC:=qr [qB 5 (.box 76 (.g 1)),qQ 2 (.mv (qC 0))] (.seq (qr [qM 0,qQ 7 (.len qa),qQ 8 (.mv (qC 0))] (.block 0 (.loop jog))) (qr [qQ 2 (.mv (qC (-1)))] .ret))
theorem qqj:T 74=some (.mk qao 2 7 [(.tmp 2)]):=by kernel_rfl
def qf6:IC:=qr [qQ 2 (.mv (.c (.s (.bool false))))] (qr [qM 0,qM 1,qA (.call 69 [qb,qa]),qP (.bin .ge qa (qC 0)),qT 2] .ret)
theorem qul:T 58=some (.mk qf6 2 1 [(.tmp 2)]):=by kernel_rfl
def j36:IC:=.seq (.block 1 (qr [qM 7,qT 4] (qr [qM 1,qM 0,qM 4,qP (.ixs 1 qb qa),qL,qQ 3 (.eqv false false [true] (.l 4) qa)] (.cond (.g 3) (qr [qM 4,qT 2] .ret) .skip)))) (.region [qI 7,qT 7])
def joh:IC:=qr [qQ 5 (.bin .lt (.g 7) (.g 6))] (.seq (qX 5 0) j36)
def qap:IC:=qr [qQ 2 (.mv (qC 0))] (.seq (qr [qM 0,qQ 6 (.len qa),qQ 7 (.mv (qC 0))] (.block 0 (.loop joh))) (qr [qQ 2 (.mv (qC (-1)))] .ret))
theorem qqk:T 69=some (.mk qap 2 6 [(.tmp 2)]):=by kernel_rfl
open Go Go.RowKit Go.Proofs.YtdbklpgagdbpiaaDoor.Ms
variable {x0 x1 x16 x17:AV} {lt agg ult:Bool} {Q:Ex->St->Prop} {f:Fc} {h:Hp} {fr st:List AV} {v kd lm un vl ukd ulm uvl:Nat} {a:SV}
attribute [local go_sem] Int.reduceToNat reduceCtorEq Nat.reduceAdd Nat.reduceMul Nat.reduceEqDiff Int.reduceEq Int.reduceLT Int.reduceLE Int.reduceNeg Int.reduceAdd Int.reduceSub Int.reduceMul Int.reduceNe
attribute [local go_sem ↓] reduceIte
set_option maxHeartbeats 2000000
theorem je0 (ok:Ok h) (cs:List SV) (ty:Nat):∃ hA,h.push (AB.arr cs ty)=hA/\Ok hA/\hA.next=h.next+1/\hA.get h.next=some (.arr cs ty)/\∀ k,k<h.next->hA.get k=h.get k :=
 ⟨_,rfl,ja4 ok,Hp.next_push ..,by rw[ja6 ok,if_pos rfl],fun k hk=>by rw[ja6 ok,if_neg (by omega)]⟩
theorem jc2 (ok:Ok h) (zs cs:List SV) (ty:Nat):∃ hA,(h.push (AB.arr zs ty)).put h.next (some (.arr cs ty))=hA/\Ok hA/\hA.next=h.next+1/\hA.get h.next=some (.arr cs ty)/\∀ k,k<h.next->hA.get k=h.get k:=by
 have hp:=ok.pos
 exact⟨_,rfl,jas (ja4 ok),by rw[Hp.next_put,Hp.next_push],by rw[jak (ja4 ok) hp,if_pos rfl],fun k hk=>by rw[jak (ja4 ok) hp,if_neg (by omega),ja6 ok,if_neg (by omega)]⟩
noncomputable def qj0 (n size:Nat) (agg:Bool) (x i:Option AV):Option AV:=ob x (fun v=>ob i (fun w=>AV.casesOn (motive:=fun _=>Option AV) v (fun _=>none) (fun cs=>below w n (fun m=>ob (jbp size (jb4 (Nat.mul m size) cs)) (fun cs=>jfg agg cs))) (fun _=>none) none none))
theorem qaq {n size:Nat} {x i:Od}:pop st fr (.ival n size agg x i)=qj0 n size agg (ev st fr x) (ev st fr i):=rfl
theorem qj1 {b:SV}:qj0 2 1 false (some (.agg [a,b])) (some (vi 0))=some (.s a):=rfl
theorem qj2 {b:SV}:qj0 2 1 false (some (.agg [a,b])) (some (vi 1))=some (.s b):=rfl
noncomputable def qum (neg agg:Bool) (sig:List Bool) (x y:Option AV):Option AV:=ob x (fun a=>ob y (fun b=>jy7 agg a (fun xs=>jy7 agg b (fun ys=>ob (jbh sig xs ys) (fun e=>some (AV.s (SV.bool (oif neg (jhd e) e))))))))
theorem jtc {neg:Bool} {sig:List Bool} {x y:Od}:pop st fr (.eqv neg agg sig x y)=qum neg agg sig (ev st fr x) (ev st fr y):=rfl
theorem qst {a b c d:Int}:qum false true [false,false] (some (.agg [.int .i64 a,.int .i64 b])) (some (.agg [.int .i64 c,.int .i64 d]))=some (vb (decide (a=c/\b=d))):=by
 show some (AV.s (SV.bool (oif (ieq a c) (oif (ieq b d) true false) false)))=_
 rw[jc0,jc0]
 by_cases h1:a=c<;>by_cases h2:b=d<;>simp[h1,h2,jap]
theorem qv8 {a b:Bool}:qum false false [true] (some (vb a)) (some (vb b))=some (vb (decide (a=b))):=by
 cases a<;>cases b<;>rfl
theorem qql (ok:Ok h) {m:Nat×Nat} (m1:2<=m.1/\m.1<=10) (m2:2<=m.2/\m.2<=10):WC F3 36 [.agg [si m.1,si m.2]] h (fun v h'=>∃ d,jhz true h' d v=some (vi 0)):=by
 refine ja9 (no3 rfl rfl rfl) qw7 rfl ?_
 unfold qqb
 obtain⟨hA,eA,okA,nA,xA,gA⟩:=je0 ok [si m.1,si m.2] 25
 have a1:((m.1:Int)<2)=False:=by simp;omega
 have a2:(10<(m.1:Int))=False:=by simp;omega
 have b1:((m.2:Int)<2)=False:=by simp;omega
 have b2:(10<(m.2:Int))=False:=by simp;omega
 simp(disch:=first|omega|rfl) only[go_sem,eA,xA]
 rw[jaj]
 unfold qfq qfp
 simp(disch:=first|omega|rfl) only[go_sem,jad,qaq,qj1,a1,a2]
 rw[jaj]
 simp(disch:=first|omega|rfl) only[go_sem,jad,qaq,qj2,b1,b2]
 rw[jaj]
 simp(disch:=first|omega|rfl) only[go_sem]
 exact⟨1,rfl⟩
theorem qj3 (ok:Ok h) (hv:v<f.values.length):WC F3 56 [.agg [jae jaz f.values,jae ja3 f.blocks],vi v] h (fun v h'=>∃ d,jhz true h' d v=some (vb true)):=by
 refine ja9 (no3 rfl rfl rfl) que rfl ?_
 unfold qfw
 obtain⟨hA,eA,okA,nA,xA,gA⟩:=je0 ok [jae jaz f.values,jae ja3 f.blocks] 29
 have a1:(0<=(v:Int))=True:=by simp
 have a2:((v:Int)<(f.values.length:Int))=True:=by simp;omega
 have ll:=jag (enc:=jaz) (l:=f.values)
 simp(disch:=first|omega|rfl) only[go_sem,eA,xA,a1,a2,ll]
 exact⟨1,rfl⟩
theorem qqm {l:List Ms.Ins} (hl:l.length<=10000) (hp:∀ x∈l,x.ops.length<=6/\x.spoils.length<=20) {x8 x9 x10 x11 x12 x13 x14 x15:AV} :
 ∀ (d i:Nat) (_:i+d=l.length) {hi:Hp} (_:Ok hi) {x2 x3 x5:AV}
  (hQ:∀ hj x2 x3 x5,Ok hj->hi.next<=hj.next->(∀ k,k<hi.next->hj.get k=hi.get k)->Q (.exit 2) (.mk [x0,x1,x2,x3,.s (jae jel l),x5,vi l.length,vi l.length,x8,x9,x10,x11,x12,x13,x14,x15,x16,x17] hj)),
  W F3 j3o.loop (.mk [x0,x1,x2,x3,.s (jae jel l),x5,vi l.length,vi i,x8,x9,x10,x11,x12,x13,x14,x15,x16,x17] hi) Q
 | 0,i,hd,hi,ok,x2,x3,x5,hQ=>by
  obtain rfl:i=l.length:=by omega
  rw[jaj]
  unfold j3o
  simp(disch:=first|omega|rfl) only[go_sem,f0s]
  exact hQ hi _ _ _ ok (f0d _) (fun _ _=>rfl)
 | d+1,i,hd,hi,ok,x2,x3,x5,hQ=>by
  have hlt:(i:Int)<l.length:=by omega
  obtain⟨x,hget⟩:∃ x,l[i]?=some x:=⟨_,f0b (by omega)⟩
  have hx:=hp x (f0c hget)
  have hix:=jah (enc:=jel) (size:=3) hget rfl
  have hs:(i:Int)+1=((i+1:Nat):Int):=by omega
  obtain⟨hA,eA,okA,nA,xA,gA⟩:=jc2 ok [.int .i64 0,.nilSlice,.nilSlice] (jel x) 59
  have l1:=jag (enc:=jbi) (l:=x.ops)
  have l2:=jag (enc:=jds) (l:=x.spoils)
  have c1:(6<(x.ops.length:Int))=False:=by simp;omega
  have c2:(20<(x.spoils.length:Int))=False:=by simp;omega
  unfold jel at xA eA
  rw[jaj]
  unfold j3o qfr
  simp(disch:=first|omega|rfl) only[go_sem,jad,eq_true hlt,hix,jel,eA,xA,l1,l2,c1,c2,hs]
  exact qqm hl hp d (i+1) (by omega) okA (fun hj x2 x3 x5 o n g=>hQ hj x2 x3 x5 o (by omega) (fun k hk=>(g k (by omega)).trans (gA k hk)))
theorem jyp {l:List Blk} {i:Nat} {b:Blk} (h:l[i]?=some b):sm (l.take (i+1))=sm (l.take i)+b.instrs.length:=by
 have hi:i<l.length:=by
  rcases f0h i l.length with h1 | h1
  .exact h1
  .rw [f0p h1] at h;cases h
 rw[f0b hi] at h
 obtain rfl:=Option.some.inj h
 rw[List.take_succ_eq_append_getElem hi,jq3]
 simp[sm]
theorem j51 (l:List Blk) (i:Nat):sm (l.take i)<=sm l:=by
 have:sm (l.take i++l.drop i)=sm (l.take i)+sm (l.drop i):=jq3 _ _
 rw[List.take_append_drop] at this;omega
theorem qf7 {m:Nat×Nat} (k:FcOk m f) :
 ∀ (d i:Nat) (_:i+d=f.blocks.length) {hi:Hp} (_:Ok hi) {x2 x3 x4 x5 x6 x7 x8 x10 x11 x13:AV}
  (hQ:∀ hj x2 x3 x4 x5 x6 x7 x8 x9 x10 x11 x13,Q (.exit 0) (.mk [x0,x1,x2,x3,x4,x5,x6,x7,x8,x9,x10,x11,.s (jae ja3 f.blocks),x13,vi f.blocks.length,vi f.blocks.length,x16,x17] hj)),
  W F3 j3p.loop (.mk [x0,x1,x2,x3,x4,x5,x6,x7,x8,vi (sm (f.blocks.take i)),x10,x11,.s (jae ja3 f.blocks),x13,vi f.blocks.length,vi i,x16,x17] hi) Q
 | 0,i,hd,hi,ok,x2,x3,x4,x5,x6,x7,x8,x10,x11,x13,hQ=>by
  obtain rfl:i=f.blocks.length:=by omega
  rw[jaj]
  unfold j3p
  simp(disch:=first|omega|rfl) only[go_sem,f0s]
  exact hQ hi ..
 | d+1,i,hd,hi,ok,x2,x3,x4,x5,x6,x7,x8,x10,x11,x13,hQ=>by
  have nb:=k.nb
  have hlt:(i:Int)<f.blocks.length:=by omega
  obtain⟨b,hget⟩:∃ b,f.blocks[i]?=some b:=⟨_,f0b (by omega)⟩
  have hmem:=f0c hget
  have hb:=k.blk b hmem
  have hin:∀ x∈b.instrs,x.ops.length<=6/\x.spoils.length<=20:=fun x hx=>⟨(k.ins b hmem x hx).nops,(k.ins b hmem x hx).nsp⟩
  have hix:=jah (enc:=ja3) (size:=3) hget rfl
  have hs:(i:Int)+1=((i+1:Nat):Int):=by omega
  have hsm:=jyp hget
  have hle:=j51 f.blocks (i+1)
  have hall:=k.all
  have hadd:((sm (f.blocks.take i):Nat):Int)+(b.instrs.length:Int)=((sm (f.blocks.take (i+1)):Nat):Int):=by omega
  obtain⟨hA,eA,okA,nA,xA,gA⟩:=jc2 ok [.nilSlice,.nilSlice,.nilSlice] (ja3 b) 39
  have l1:=jag (enc:=jaz) (l:=b.params)
  have l2:=jag (enc:=jel) (l:=b.instrs)
  have l3:=jag (enc:=jgf) (l:=b.edges)
  have c1:(5<(b.params.length:Int))=False:=by simp;omega
  have c2:(40<(b.instrs.length:Int))=False:=by simp;omega
  have c3:(3<(b.edges.length:Int))=False:=by simp;omega
  have c4:(160<((sm (f.blocks.take (i+1)):Nat):Int))=False:=by simp;omega
  unfold ja3 at xA eA
  rw[jaj]
  unfold j3p qfu qft qfs
  simp(disch:=first|omega|rfl) only[go_sem,jad,eq_true hlt,hix,ja3,eA,xA,l1,l2,l3,c1,c2,c3,hadd,c4]
  refine qqm (by omega) hin b.instrs.length 0 (by omega) okA (fun hj x2 x3 x5 o n g=>?_)
  simp(disch:=first|omega|rfl) only[go_sem,jad,hs]
  exact qf7 k d (i+1) (by omega) o hQ
theorem qqn (ok:Ok h) {m:Nat×Nat} (k:FcOk m f):WC F3 37 [.agg [jae jaz f.values,jae ja3 f.blocks]] h (fun v h'=>∃ d,jhz true h' d v=some (vi 0)):=by
 refine ja9 (no3 rfl rfl rfl) qw8 rfl ?_
 unfold qqc
 have nb:=k.nb
 have nv:=k.nv
 obtain⟨hA,eA,okA,nA,xA,gA⟩:=je0 ok [jae jaz f.values,jae ja3 f.blocks] 29
 have l1:=jag (enc:=jaz) (l:=f.values)
 have l2:=jag (enc:=ja3) (l:=f.blocks)
 have c1:((f.blocks.length:Int)<1)=False:=by simp;omega
 have c2:(16<(f.blocks.length:Int))=False:=by simp;omega
 have c3:(160<(f.values.length:Int))=False:=by simp;omega
 simp(disch:=first|omega|rfl) only[go_sem,eA,xA,l1,l2,c1,c2,c3]
 unfold qfv
 simp(disch:=first|omega|rfl) only[go_sem,xA,l2]
 refine qf7 k f.blocks.length 0 (by omega) okA (fun hj x2 x3 x4 x5 x6 x7 x8 x9 x10 x11 x13=>?_)
 simp(disch:=first|omega|rfl) only[go_sem]
 exact⟨1,rfl⟩
theorem jrh {vs:List Nat} (h:v<vs.length):vs[v]?=some (cl vs v):=by
 unfold cl;rw[f0f,f0b h];rfl
theorem qj4 (ok:Ok h) {x:Ms.Ins} {o u:Ms.Opd} (h1:x.ops[o.n]?=some u) (h2:u.kind=1) (h3:u.late=false) (h4:cl f.values u.value=cl f.values o.value) (h5:u.value<f.values.length) (h6:o.value<f.values.length) :
 WC F3 52 [.agg [jae jaz f.values,jae ja3 f.blocks],.agg [si x.op,jae jbi x.ops,jae jds x.spoils],.agg [si o.kind,si o.value,.bool o.late,si o.limit,si o.n]] h (fun v h'=>∃ d,jhz true h' d v=some (vi 0)):=by
 obtain⟨kd,vl,lt,lm,n⟩:=o
 obtain⟨ukd,uvl,ult,ulm,un⟩:=u
 simp only at h1 h2 h3 h4 h5 h6
 subst h2 h3
 refine ja9 (no3 rfl rfl rfl) qqe rfl ?_
 unfold j9u
 obtain⟨hA,eA,okA,nA,xA,gA⟩:=je0 ok [jae jaz f.values,jae ja3 f.blocks] 29
 obtain⟨hB,eB,okB,nB,xB,gB⟩:=je0 okA [si x.op,jae jbi x.ops,jae jds x.spoils] 59
 obtain⟨hC,eC,okC,nC,xC,gC⟩:=je0 okB [si kd,si vl,.bool lt,si lm,si n] 73
 obtain⟨hD,eD,okD,nD,xD,gD⟩:=jc2 okC [.int .i64 0,.int .i64 0,.bool false,.int .i64 0,.int .i64 0] [si 1,si uvl,.bool false,si ulm,si un] 73
 have yA:=(gC _ (by omega)).trans ((gB _ (by omega)).trans xA)
 have yB:=(gC _ (by omega)).trans xB
 have zA:=(gD _ (by omega)).trans yA
 have zC:=(gD _ (by omega)).trans xC
 have nb:hB.next=h.next+2:=by omega
 have nc:hC.next=h.next+3:=by omega
 rw[nA] at xB yB
 rw[nb] at xC zC
 rw[nc] at eD xD
 have hl:n<x.ops.length:=by
  rcases f0h n x.ops.length with h7 | h7
  .exact h7
  .rw [f0p h7] at h1;cases h1
 have l1:=jag (enc:=jbi) (l:=x.ops)
 have ix:=jah (enc:=jbi) (size:=5) h1 rfl
 have i1:=jah (enc:=jaz) (size:=1) (jrh h5) rfl
 have i2:=jah (enc:=jaz) (size:=1) (jrh h6) rfl
 have c1:((n:Int)<0)=False:=by simp
 have c2:((x.ops.length:Int)<=(n:Int))=False:=by simp;omega
 have c3:(((1:Nat):Int)≠1)=False:=by simp
 have c4:((cl f.values uvl:Int)≠(cl f.values vl:Int))=False:=by simp[h4]
 simp(disch:=first|omega|rfl) only[go_sem,eA,eB,eC,nA,nb,xA,yA,yB,xC,l1,ix,jbi,c1,c2]
 unfold j3t j3s j3r j3q
 simp(disch:=first|omega|rfl) only[go_sem,yA,yB,xC,ix,jbi,eD,nc,xD,zA,zC,i1,i2,jaz,c4]
 exact⟨1,rfl⟩
theorem joi {bm:Nat} {m:Nat×Nat} {l:List (Nat×Nat)} (hl:l.length<=10000) (hr:∀ r∈l,r.1<2/\r.2<g2 m r.1) (hord:∀ (i:Nat) (q r:Nat×Nat),l[i]?=some q->l[i+1]?=some r->q.1<r.1∨(q.1=r.1/\q.2<r.2)) {x2:AV} :
 ∀ (d i:Nat) (_:i+d=l.length) {hi:Hp} (_:Ok hi) (_:bm<hi.next) (_:hi.get bm=some (.arr [si m.1,si m.2] 25)) {x3 x4 x5 x7 x9:AV}
  (hQ:∀ hj x3 x4 x5 x7 x9,Q (.exit 0) (.mk [x0,.s (jae jds l),x2,x3,x4,x5,.s (.ptr bm 0),x7,.s (jae jds l),x9,vi l.length,vi l.length] hj)),
  W F3 joe.loop (.mk [x0,.s (jae jds l),x2,x3,x4,x5,.s (.ptr bm 0),x7,.s (jae jds l),x9,vi l.length,vi i] hi) Q
 | 0,i,hd,hi,ok,hb,xb,x3,x4,x5,x7,x9,hQ=>by
  obtain rfl:i=l.length:=by omega
  rw[jaj]
  unfold joe
  simp(disch:=first|omega|rfl) only[go_sem,f0s]
  exact hQ hi ..
 | d+1,i,hd,hi,ok,hb,xb,x3,x4,x5,x7,x9,hQ=>by
  have hlt:(i:Int)<l.length:=by omega
  obtain⟨⟨c,n⟩,hget⟩:∃ x,l[i]?=some x:=⟨_,f0b (by omega)⟩
  have hx:=hr _ (f0c hget)
  have hix:=jah (enc:=jds) (size:=2) hget rfl
  have hs:(i:Int)+1=((i+1:Nat):Int):=by omega
  obtain⟨hA,eA,okA,nA,xA,gA⟩:=jc2 ok [.int .i64 0,.int .i64 0] (jds (c,n)) 76
  have yb:=(gA _ hb).trans xb
  unfold jds at xA eA
  simp only at xA eA hx
  have c1:((c:Int)<0)=False:=by simp
  have c2:(2<=(c:Int))=False:=by simp;omega
  have c3:((n:Int)<0)=False:=by simp
  have hm:(c=0/\n<m.1)∨(c=1/\n<m.2):=by
   have:c=0∨c=1:=by omega
   rcases this with rfl | rfl
   .exact .inl ⟨rfl,hx.2⟩
   .exact .inr ⟨rfl,hx.2⟩
  have hrd:∃ k,rdB (hA.get bm) c 1=some [si (k:Nat)]/\n<k:=by
   rw[yb]
   rcases hm with⟨rfl,h⟩ | ⟨rfl,h⟩
   .exact ⟨m.1,rfl,h⟩
   .exact ⟨m.2,rfl,h⟩
  obtain⟨k,hrd,hk⟩:=hrd
  have hxa:=jc4 (n:=2) (size:=1) (b:=bm) (off:=0) (m:=c) (by omega)
  rw[f0z,f2h] at hxa
  have c4:((k:Int)<=(n:Int))=False:=by simp;omega
  rw[jaj]
  unfold joe j3v j3u
  simp(disch:=first|omega|rfl) only[go_sem,jad,eq_true hlt,hix,jds,eA,xA,c1,c2,c3,hxa,hrd,c4]
  have xA':=xA
  cases i with
  | zero =>
   unfold jvz jvy
   simp(disch:=first|omega|rfl) only[go_sem,jad,hix,jds,eA,xA,hs,f0s]
   exact joi hl hr hord d (0+1) (by omega) okA (by omega) yb hQ
  | succ j =>
   obtain⟨⟨pc,pn⟩,hp⟩:∃ x,l[j]?=some x:=⟨_,f0b (by omega)⟩
   have hpx:=jah (enc:=jds) (size:=2) hp rfl
   have ho:=hord j _ _ hp hget
   simp only at ho
   have p0:(0<((j+1:Nat):Int))=True:=eq_true (by omega)
   have p1:((j+1:Nat):Int) - 1=(j:Int):=by omega
   have q1:((c:Int)<(pc:Int))=False:=by simp;omega
   unfold jvz jvy
   by_cases e:pc=c
   .subst e
    have q2:((pc:Int)=(pc:Int))=True:=by simp
    have q3:((n:Int)<=(pn:Int))=False:=by simp;omega
    simp(disch:=first|omega|rfl) only[go_sem,jad,hix,hpx,jds,eA,xA,hs,p0,p1,q1,q2,q3]
    exact joi hl hr hord d (j+1+1) (by omega) okA (by omega) yb hQ
   .have q2:((pc:Int)=(c:Int))=False:=by simp;omega
    simp(disch:=first|omega|rfl) only[go_sem,jad,hix,hpx,jds,eA,xA,hs,p0,p1,q1,q2]
    exact joi hl hr hord d (j+1+1) (by omega) okA (by omega) yb hQ
theorem qj5 (ok:Ok h) {m:Nat×Nat} {l:List (Nat×Nat)} (hl:l.length<=10000) (hr:∀ r∈l,r.1<2/\r.2<g2 m r.1) (hord:∀ (i:Nat) (q r:Nat×Nat),l[i]?=some q->l[i+1]?=some r->q.1<r.1∨(q.1=r.1/\q.2<r.2)) :
 WC F3 53 [.agg [si m.1,si m.2],.s (jae jds l)] h (fun v h'=>∃ d,jhz true h' d v=some (vi 0)):=by
 refine ja9 (no3 rfl rfl rfl) qqf rfl ?_
 unfold j9v
 obtain⟨hA,eA,okA,nA,xA,gA⟩:=je0 ok [si m.1,si m.2] 25
 have l1:=jag (enc:=jds) (l:=l)
 simp(disch:=first|omega|rfl) only[go_sem,eA,xA,l1]
 refine joi hl hr hord l.length 0 (by omega) okA (by omega) xA (fun hj x3 x4 x5 x7 x9=>?_)
 simp(disch:=first|omega|rfl) only[go_sem]
 exact⟨1,rfl⟩
theorem jyq (ok:Ok h) {n:Nat} (ha:kd=1) (hb:ukd=1∨ukd=2):WC F3 68 [.agg [si kd,si vl,.bool lt,si lm,si n],.agg [si ukd,si uvl,.bool ult,si ulm,si un]] h (fun v h'=>v=vb (if ukd=1 then decide (vl≠uvl) else (lt || !ult))):=by
 refine ja9 (no3 rfl rfl rfl) qfx rfl ?_
 unfold j1n
 obtain⟨hA,eA,okA,nA,xA,gA⟩:=je0 ok [si kd,si vl,.bool lt,si lm,si n] 73
 obtain⟨hB,eB,okB,nB,xB,gB⟩:=je0 okA [si ukd,si uvl,.bool ult,si ulm,si un] 73
 have yA:=(gB _ (by omega)).trans xA
 rw[nA] at xB
 have a1:((kd:Int)=1)=True:=eq_true (by omega)
 have a2:((kd:Int)=2)=False:=eq_false (by omega)
 by_cases e1:ukd=1
 .have b1:((ukd:Int)=1)=True:=eq_true (by omega)
  simp(disch:=first|omega|rfl) only[go_sem,eA,nA,eB,xB,yA,a1,b1]
  rw[if_pos e1]
  by_cases e:vl=uvl
  .subst e;simp
  .have:¬ ((vl:Int)=(uvl:Int)):=by omega
   simp[e,this]
 .have b1:((ukd:Int)=1)=False:=eq_false (by omega)
  rw[if_neg e1]
  cases lt<;>cases ult<;>(simp(disch:=first|omega|rfl) only[go_sem,eA,nA,eB,xB,yA,a1,a2,b1];try rfl)
theorem qd5 (ok:Ok h) {n:Nat} (ha:kd=1∨kd=2) (hb:ukd=1∨ukd=2):WC F3 68 [.agg [si kd,si vl,.bool lt,si lm,si n],.agg [si ukd,si uvl,.bool ult,si ulm,si un]] h (fun v h'=>∃ b d,jhz true h' d v=some (vb b)):=by
 rcases ha with ha | ha
 .exact WC.imp (jyq ok ha hb) (fun v h' e=>by subst e;exact⟨_,1,rfl⟩)
 .refine ja9 (no3 rfl rfl rfl) qfx rfl ?_
  unfold j1n
  obtain⟨hA,eA,okA,nA,xA,gA⟩:=je0 ok [si kd,si vl,.bool lt,si lm,si n] 73
  obtain⟨hB,eB,okB,nB,xB,gB⟩:=je0 okA [si ukd,si uvl,.bool ult,si ulm,si un] 73
  have yA:=(gB _ (by omega)).trans xA
  rw[nA] at xB
  have a1:((kd:Int)=1)=False:=eq_false (by omega)
  have a2:((kd:Int)=2)=True:=eq_true (by omega)
  rcases hb with hb | hb
  .have b2:((ukd:Int)=2)=False:=eq_false (by omega)
   simp(disch:=first|omega|rfl) only[go_sem,eA,nA,eB,xB,yA,a1,a2,b2]
   refine WC.imp (jyq okB hb (.inr ha)) (fun v h' e=>?_)
   subst e
   simp(disch:=first|omega|rfl) only[go_sem]
   exact⟨_,1,rfl⟩
  .have b2:((ukd:Int)=2)=True:=eq_true (by omega)
   simp(disch:=first|omega|rfl) only[go_sem,eA,nA,eB,xB,yA,a1,a2,b2]
   exact⟨_,1,rfl⟩
end Go.Proofs.YtdbklpgagdbpiaaDoor.Ev
