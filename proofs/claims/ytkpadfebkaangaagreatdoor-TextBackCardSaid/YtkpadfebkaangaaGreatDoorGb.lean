/- Code of functions as the interpreter has it prepared. -/
import Derived.Test.YtkpadfebkaangaaGreatDoorMc11
import Derived.Test.YtkpadfebkaangaaGreatDoorVd
namespace Go.Proofs.YtkpadfebkaangaaGreatDoor.Ev
noncomputable section
open Go Go.RowKit
set_option linter.all false
set_option maxRecDepth 100000
def qh5:IC:=.seq (.block 1 (qr [qP (.ival 2 1 false (.g 4) (.g 6)),qT 3] (qr [qM 3,qP (.bin .lt qa (qC 2)),qP (.mv qa),qR 0 false (.mv (.g 3)),qR 1 false (.bin .gt qa (qC 10)),qQ 2 (.pick qc (.c (.s (.bool true))) qa)] (.cond (.g 2) (qr [qQ 1 (.mv (qC 2))] .ret) .skip)))) (.region [qI 6,qT 6])
def qh6:IC:=qr [qQ 5 (.bin .lt (.g 6) (qC 2))] (.seq (qX 5 0) qh5)
def qsv:IC:=qr [qB 7 (.box 28 (.g 0)),qQ 1 (.mv (qC 0))] (.seq (qr [qF 0 7,qB 4 (.load 2 true qa),qQ 6 (.mv (qC 0))] (.block 0 (.loop qh6))) (qr [qQ 1 (.mv (qC 0))] .ret))
theorem q4w:T 57=some (.mk qsv 1 7 [(.tmp 1)]):=ka
def qh7:IC:=.seq (.block 3 (qr [qP (.ixs 3 (.g 4) (.g 7)),qK 3,qB 3 (.new 62 Zg),qA (.store 3 qa qb)] (qr [qF 1 3,qL,qP (.len qa),qP (.bin .gt qa (qC 6)),qP (.mv qa),qR 0 false (.fld 2 (.g 3)),qS 1 false (.load 1 false qa),qR 2 false (.len qa),qR 3 false (.bin .gt qa (qC 20)),qQ 2 (.pick (.l 4) (.c (.s (.bool true))) qa)] (.cond (.g 2) (qr [qQ 1 (.mv (qC 1))] .ret) .skip)))) (.region [qI 7,qT 7])
def j1i:IC:=qr [qQ 5 (.bin .lt (.g 7) (.g 6))] (.seq (qX 5 2) qh7)
def qh8:IC:=qr [qF 1 11,qB 4 (.load 1 false qa),qQ 6 (.len qa),qQ 7 (.mv (qC 0))] (.block 2 (.loop j1i))
def qh9:IC:=.seq (qr [qM 9,qF 1 11,qL,qP (.len qa),qP (.bin .add qd qa),qT 9] (qr [qM 9,qQ 8 (.bin .gt qa (qC 160))] (.cond (.g 8) (qr [qQ 1 (.mv (qC 1))] .ret) .skip))) qh8
def qia:IC:=.seq (.block 1 (qr [qP (.ixs 3 (.g 12) (.g 15)),qK 3,qB 11 (.new 58 Zi),qA (.store 3 qa qb)] (.seq (qr [qF 0 11,qL,qP (.len qa),qP (.bin .gt qa (qC 5)),qP (.mv qa),qR 0 false (.fld 1 (.g 11)),qS 1 false (.load 1 false qa),qR 2 false (.len qa),qR 3 false (.bin .gt qa (qC 40)),qP (.pick (.l 4) (.c (.s (.bool true))) qa),qP (.mv qa),qR 0 false (.fld 2 (.g 11)),qS 1 false (.load 1 false qa),qR 2 false (.len qa),qR 3 false (.bin .gt qa (qC 3)),qQ 10 (.pick (.l 4) (.c (.s (.bool true))) qa)] (.cond (.g 10) (qr [qQ 1 (.mv (qC 1))] .ret) .skip)) qh9))) (.region [qI 15,qT 15])
def j1j:IC:=qr [qQ 13 (.bin .lt (.g 15) (.g 14))] (.seq (qX 13 0) qia)
def qib:IC:=qr [qQ 9 (.mv (qC 0))] (.seq (qr [qF 1 17,qB 12 (.load 1 false qa),qQ 14 (.len qa),qQ 15 (.mv (qC 0))] (.block 0 (.loop j1j))) (qr [qQ 1 (.mv (qC 0))] .ret))
def qsw:IC:=qr [qB 17 (.box 32 (.g 0)),qQ 1 (.mv (qC 0))] (.seq (qr [qF 1 17,qL,qP (.len qa),qP (.bin .lt qa (qC 1)),qP (.mv qa),qR 0 false (.fld 1 (.g 17)),qS 1 false (.load 1 false qa),qR 2 false (.len qa),qR 3 false (.bin .gt qa (qC 16)),qP (.pick (.l 4) (.c (.s (.bool true))) qa),qP (.mv qa),qR 0 false (.fld 0 (.g 17)),qS 1 false (.load 1 false qa),qR 2 false (.len qa),qR 3 false (.bin .gt qa (qC 160)),qQ 16 (.pick (.l 4) (.c (.s (.bool true))) qa)] (.cond (.g 16) (qr [qQ 1 (.mv (qC 1))] .ret) .skip)) qib)
theorem q4x:T 58=some (.mk qsw 1 17 [(.tmp 1)]):=ka
def qic:IC:=qr [qB 3 (.box 32 (.g 0)),qQ 2 (.mv (.c (.s (.bool false))))] (qr [qM 1,qP (.bin .ge qa (qC 0)),qP (.mv qa),qR 0 true (.mv (.g 1)),qR 1 true (.fld 0 (.g 3)),qS 2 true (.load 1 false qa),qR 3 true (.len qa),qR 4 true (.bin .lt qd qa),qP (.pick (.l 5) qa (.c (.s (.bool false)))),qT 2] .ret)
theorem qzx:T 87=some (.mk qic 2 2 [(.tmp 2)]):=ka
def jih:IC:=.draw [(qF 3 10,.none),(qL,.some []),(qP (.bin .eq qa (qC 4)),.none),(qP (.mv qa),.none),(qR 0 true (.fld 4 (.g 10)),.none),(qS 1 true (.load 1 false qa),.some []),(qR 2 true (.bin .lt qa (qC 0)),.none),(qR 3 true (.mv qa),.none),(qR 0 false (.fld 4 (.g 10)),.none),(qS 1 false (.load 1 false qa),.some []),(qR 2 false (.fld 0 (.g 8)),.none),(qS 3 false (.load 1 false qa),.some [1]),(qR 4 false (.fld 1 (.g 10)),.none),(qS 5 false (.load 1 false qa),.some [1,3]),(qR 6 false (.ixs 1 qc qa),.none),(qS 7 false (.load 1 false qa),.some [5]),(qR 8 false (.fld 0 (.g 6)),.none),(qR 9 false (.ixa 2 1 qa qb),.none),(qS 10 false (.load 1 false qa),.some [8]),(qR 11 false (.bin .ge (.l 9) qa),.none),(qR 16 true (.pick (.l 12) (.c (.s (.bool true))) qa),.none),(qP (.pick (.l 17) qa (.c (.s (.bool false)))),.none),(qT 5,.none)]
def jii:IC:=.cond (.g 4) (qr [qQ 3 (.mv (qC 4))] .ret) .skip
def jij:IC:=.cond (.g 9) (qr [qQ 3 (.mv (qC 3))] .ret) (qr [qA (.load 2 true (.g 8)),qF 1 10,qL,qA (.call 87 [qc,qa]),qP (.not qa),qT 7] (.cond (.g 7) (qr [qQ 3 (.mv (qC 2))] .ret) (.seq jih (.cond (.g 5) (qr [qQ 3 (.mv (qC 2))] .ret) (.seq (qr [qF 3 10,qL,qP (.bin .le qa (qC 3)),qP (.mv qa),qR 0 true (.fld 4 (.g 10)),qS 1 true (.load 1 false qa),qR 2 true (.bin .ne qa (qC 0)),qP (.pick qd qa (.c (.s (.bool false)))),qT 4] (.cond (.g 4) .skip (.region [qF 3 10,qL,qP (.bin .eq qa (qC 5)),qP (.mv qa),qR 0 true (.fld 0 (.g 10)),qS 1 true (.load 1 false qa),qR 2 true (.bin .ne qa (qC 2)),qR 3 true (.mv qa),qR 0 false (.fld 2 (.g 10)),qS 1 false (.load 1 false qa),qR 2 false (.not qa),qR 7 true (.pick qd (.c (.s (.bool true))) qa),qP (.pick (.l 8) qa (.c (.s (.bool false)))),qT 4]))) jii)))))
def j9n:IC:=qr [qB 8 (.box 32 (.g 0)),qB 6 (.box 28 (.g 1)),qB 10 (.box 80 (.g 2)),qQ 3 (.mv (qC 0))] (.seq (.block 0 (.seq (qr [qF 0 10,qL,qP (.bin .ne qa (qC 1)),qP (.mv qa),qR 0 true (.fld 0 (.g 10)),qS 1 true (.load 1 false qa),qR 2 true (.bin .ne qa (qC 2)),qP (.pick qd qa (.c (.s (.bool false)))),qT 9] (.cond (.g 9) .skip (.region [qF 3 10,qL,qP (.bin .lt qa (qC 1)),qP (.mv qa),qR 0 false (.fld 3 (.g 10)),qS 1 false (.load 1 false qa),qR 2 false (.bin .gt qa (qC 5)),qP (.pick qd (.c (.s (.bool true))) qa),qT 9]))) jij)) (qr [qQ 3 (.mv (qC 0))] .ret))
theorem qsx:T 82=some (.mk j9n 3 8 [(.tmp 3)]):=ka
def j1k:IC:=.draw [(qF 0 5,.none),(qL,.some []),(qF 1 7,.none),(qL,.some [1]),(qP (.ixs 1 qc qa),.none),(qL,.some []),(qF 0 5,.none),(qL,.some [1,3,5]),(qF 1 10,.none),(qL,.some [1,3,5,7]),(qP (.ixs 1 qc qa),.none),(qL,.some [5,7,9]),(qQ 4 (.bin .ne (.l 6) qa),.none)]
def j1l:IC:=qr [qQ 3 (.mv (qC 0))] .ret
def j1m:IC:=.seq (.seq j1k (.cond (.g 4) (qr [qQ 3 (.mv (qC 17))] .ret) .skip)) j1l
def j1n:IC:=qr [qF 1 9,qL,qF 4 10,qL,qP (.ixs 5 qc qa),qK 5,qB 7 (.new 80 Za),qA (.store 5 qa qb)] (.seq (qr [qF 0 7,qL,qP (.bin .ne qa (qC 1)),qP (.mv qa),qR 0 false (.fld 2 (.g 7)),qS 1 false (.load 1 false qa),qQ 6 (.pick qc (.c (.s (.bool true))) qa)] (.cond (.g 6) (qr [qQ 3 (.mv (qC 4))] .ret) .skip)) j1m)
def j9o:IC:=qr [qB 5 (.box 32 (.g 0)),qB 9 (.box 62 (.g 1)),qB 10 (.box 80 (.g 2)),qQ 3 (.mv (qC 0))] (.seq (qr [qF 4 10,qL,qP (.bin .lt qa (qC 0)),qP (.mv qa),qR 0 false (.fld 4 (.g 10)),qS 1 false (.load 1 false qa),qR 2 false (.fld 1 (.g 9)),qS 3 false (.load 1 false qa),qR 4 false (.len qa),qR 5 false (.bin .ge qd qa),qQ 8 (.pick (.l 6) (.c (.s (.bool true))) qa)] (.cond (.g 8) (qr [qQ 3 (.mv (qC 6))] .ret) .skip)) j1n)
theorem qsy:T 83=some (.mk j9o 3 8 [(.tmp 3)]):=ka
def j1o:IC:=.draw [(qF 0 7,.none),(qL,.some []),(qP (.bin .lt qa (qC 0)),.none),(qP (.mv qa),.none),(qR 0 false (.fld 0 (.g 7)),.none),(qS 1 false (.load 1 false qa),.some []),(qR 2 false (.bin .ge qa (qC 2)),.none),(qP (.pick qd (.c (.s (.bool true))) qa),.none),(qP (.mv qa),.none),(qR 0 false (.fld 1 (.g 7)),.none),(qS 1 false (.load 1 false qa),.some []),(qR 2 false (.bin .lt qa (qC 0)),.none),(qP (.pick qd (.c (.s (.bool true))) qa),.none),(qP (.mv qa),.none),(qR 0 false (.fld 1 (.g 7)),.none),(qS 1 false (.load 1 false qa),.some []),(qR 2 false (.fld 0 (.g 7)),.none),(qS 3 false (.load 1 false qa),.some [1]),(qR 4 false (.fld 0 (.g 6)),.none),(qR 5 false (.ixa 2 1 qa qb),.none),(qS 6 false (.load 1 false qa),.some [4]),(qR 7 false (.bin .ge (.l 5) qa),.none),(qQ 5 (.pick (.l 8) (.c (.s (.bool true))) qa),.none)]
def jtb:IC:=.draw [(qM 4,.none),(qP (.bin .gt qa (qC 0)),.none),(qP (.mv qa),.none),(qR 0 true (.mv (.g 1)),.none),(qR 1 true (.mv (.g 4)),.none),(qR 2 true (.bin .sub qa (qC 1)),.none),(qR 3 true (.ixs 2 qc qa),.none),(qR 4 true (.fld 0 qa),.none),(qS 5 true (.load 1 false qa),.some []),(qR 6 true (.fld 0 (.g 7)),.none),(qS 7 true (.load 1 false qa),.some [1]),(qR 8 true (.bin .gt qc qa),.none),(qR 9 true (.mv qa),.none),(qR 0 false (.mv (.g 1)),.none),(qR 1 false (.mv (.g 4)),.none),(qR 2 false (.bin .sub qa (qC 1)),.none),(qR 3 false (.ixs 2 qc qa),.none),(qR 4 false (.fld 0 qa),.none),(qS 5 false (.load 1 false qa),.some []),(qR 6 false (.fld 0 (.g 7)),.none),(qS 7 false (.load 1 false qa),.some [1]),(qR 8 false (.bin .eq qc qa),.none),(qR 9 false (.mv qa),.none),(qR 0 true (.mv (.g 1)),.none),(qR 1 true (.mv (.g 4)),.none),(qR 2 true (.bin .sub qa (qC 1)),.none),(qR 3 true (.ixs 2 qc qa),.none),(qR 4 true (.fld 1 qa),.none),(qS 5 true (.load 1 false qa),.some []),(qR 6 true (.fld 1 (.g 7)),.none),(qS 7 true (.load 1 false qa),.some [1]),(qR 8 true (.bin .ge qc qa),.none),(qR 19 false (.pick (.l 9) qa (.c (.s (.bool false)))),.none),(qR 30 true (.pick (.l 20) (.c (.s (.bool true))) qa),.none),(qQ 3 (.pick (.l 31) qa (.c (.s (.bool false)))),.none)]
def jtc:IC:=.seq jtb (.cond (.g 3) (qr [qQ 2 (.mv (qC 4))] .ret) .skip)
def j1p:IC:=.seq (.block 1 (qr [qM 11,qP (.ixs 2 (.g 8) (.g 11)),qK 2,qB 7 (.new 83 Zf),qQ 4 (.mv qd),qA (.store 2 qb qc)] (.seq (.seq j1o (.cond (.g 5) (qr [qQ 2 (.mv (qC 2))] .ret) .skip)) jtc))) (.region [qI 11,qT 11])
def jnc:IC:=qr [qQ 9 (.bin .lt (.g 11) (.g 10))] (.seq (qX 9 0) j1p)
def j9p:IC:=qr [qB 6 (.box 28 (.g 0)),qQ 2 (.mv (qC 0))] (.seq (qr [qQ 8 (.mv (.g 1)),qQ 10 (.len qa),qQ 11 (.mv (qC 0))] (.block 0 (.loop jnc))) (qr [qQ 2 (.mv (qC 0))] .ret))
theorem qsz:T 84=some (.mk j9p 2 10 [(.tmp 2)]):=ka
def jze:IC:=qr [qB 7 (.box 80 (.g 0)),qB 6 (.box 80 (.g 1)),qQ 2 (.mv (.c (.s (.bool false))))] (.seq (.block 0 (qr [qF 0 7,qL,qP (.bin .eq qa (qC 1)),qP (.mv qa),qR 0 true (.fld 0 (.g 6)),qS 1 true (.load 1 false qa),qR 2 true (.bin .eq qa (qC 1)),qP (.pick qd qa (.c (.s (.bool false)))),qT 5] (.cond (.g 5) (qr [qF 1 7,qL,qF 1 6,qL,qP (.bin .ne qc qa),qT 2] .ret) (qr [qF 0 7,qL,qP (.bin .eq qa (qC 2)),qP (.mv qa),qR 0 true (.fld 0 (.g 6)),qS 1 true (.load 1 false qa),qR 2 true (.bin .eq qa (qC 2)),qP (.pick qd qa (.c (.s (.bool false)))),qT 4] (.cond (.g 4) (qr [qQ 2 (.mv (.c (.s (.bool true))))] .ret) (qr [qF 0 7,qL,qP (.bin .eq qa (qC 2)),qT 3] (.cond (.g 3) (qr [qA (.load 5 true (.g 6)),qA (.load 5 true (.g 7)),qA (.call 109 [qb,qa]),qT 2] .ret) .skip))))))) (qr [qF 2 7,qL,qP (.mv qa),qR 0 false (.fld 2 (.g 6)),qS 1 false (.load 1 false qa),qR 2 false (.not qa),qP (.pick qd (.c (.s (.bool true))) qa),qT 2] .ret))
theorem qid:T 109=some (.mk jze 2 6 [(.tmp 2)]):=ka
def j1q:IC:=.draw [(qF 0 4,.none),(qL,.some []),(qF 1 9,.none),(qL,.some [1]),(qP (.ixs 1 qc qa),.none),(qL,.some []),(qF 4 9,.none),(qL,.some [1,3,5]),(qP (.build Zf [(0,(1,qc)),(1,(1,qa))]),.none),(qA (.store 2 (.g 5) qa),.none),(qQ 3 (.mv (.c (.s (.bool true)))),.none)]
def j1r:IC:=.seq j1q .ret
def jtd:IC:=.seq (qr [qF 3 9,qL,qQ 6 (.bin .ne qa (qC 4))] (.cond (.g 6) (qr [qP (.build Zf []),qA (.store 2 (.g 5) qa),qQ 3 (.mv (.c (.s (.bool false))))] .ret) .skip)) j1r
def j9q:IC:=qr [qB 4 (.box 32 (.g 0)),qB 7 (.box 62 (.g 1)),qB 9 (.box 80 (.g 2)),qB 5 (.new 83 Zf),qQ 3 (.mv (.c (.s (.bool false))))] (.seq (qr [qF 3 9,qL,qQ 8 (.bin .eq qa (qC 5))] (.cond (.g 8) (.region [qF 1 7,qL,qF 4 9,qL,qP (.ixs 5 qc qa),qK 5,qA (.store 5 (.g 9) qa)]) .skip)) jtd)
theorem qs0:T 107=some (.mk j9q 3 7 [(.cell 5 2 true),(.tmp 3)]):=ka
def jg2:IC:=qr [qF 3 19,qL,qP (.bin .eq qa (qC 5)),qP (.mv qa),qR 0 true (.fld 4 (.g 19)),qS 1 true (.load 1 false qa),qR 2 true (.mv (.g 7)),qR 3 true (.bin .eq qb qa),qP (.pick (.l 4) qa (.c (.s (.bool false)))),qP (.mv qa),qR 0 false (.fld 3 (.g 9)),qS 1 false (.load 1 false qa),qR 2 false (.bin .eq qa (qC 5)),qR 3 false (.mv qa),qR 0 true (.fld 4 (.g 9)),qS 1 true (.load 1 false qa),qR 2 true (.mv (.g 14)),qR 3 true (.bin .eq qb qa),qR 8 false (.pick (.l 4) qa (.c (.s (.bool false)))),qP (.pick (.l 9) (.c (.s (.bool true))) qa),qT 4] (qr [qM 18,qP (.mv qa),qR 0 true (.mv (.g 6)),qP (.pick qb qa (.c (.s (.bool false)))),qP (.mv qa),qS 0 true (.load 2 true (.g 5)),qS 1 true (.load 2 true (.g 17)),qR 2 true (.eqv false true [false,false] qb qa),qP (.pick qd qa (.c (.s (.bool false)))),qP (.mv qa),qS 0 true (.load 5 true (.g 19)),qS 1 true (.load 5 true (.g 9)),qS 2 true (.call 109 [qb,qa]),qP (.pick qd qa (.c (.s (.bool false)))),qP (.mv qa),qR 0 true (.mv (.g 4)),qR 1 true (.not qa),qQ 3 (.pick qc qa (.c (.s (.bool false))))] (.cond (.g 3) (qr [qQ 2 (.mv (.c (.s (.bool true))))] .ret) .skip))
def j9r:IC:=.seq (.block 3 (qr [qM 13,qP (.ixs 5 (.g 10) (.g 13)),qK 5,qB 9 (.new 80 Za),qQ 7 (.mv qd),qA (.store 5 qb qc)] (qr [qA (.load 2 true (.g 20)),qA (.load 3 true (.g 25)),qA (.load 5 true (.g 9)),qA (.call 107 [qc,qb,qa]),qP (.mv qa),qP (.ext 0 qa),qP (.ext 1 qb),qB 5 (.new 83 Zf),qA (.store 2 qa qc),qQ 6 (.mv qc)] (.seq (qr [qF 3 19,qL,qP (.bin .eq qa (qC 5)),qP (.mv qa),qR 0 true (.fld 3 (.g 9)),qS 1 true (.load 1 false qa),qR 2 true (.bin .eq qa (qC 5)),qP (.pick qd qa (.c (.s (.bool false)))),qP (.mv qa),qR 0 true (.fld 4 (.g 19)),qS 1 true (.load 1 false qa),qR 2 true (.fld 4 (.g 9)),qS 3 true (.load 1 false qa),qR 4 true (.bin .eq qc qa),qQ 8 (.pick (.l 5) qa (.c (.s (.bool false))))] (.cond (.g 8) (qr [qQ 2 (.mv (.c (.s (.bool true))))] .ret) .skip)) jg2)))) (.region [qI 13,qT 13])
def jpr:IC:=qr [qQ 11 (.bin .lt (.g 13) (.g 12))] (.seq (qX 11 2) j9r)
def jzf:IC:=qr [qF 1 25,qL,qM 14,qQ 10 (.slice 5 qb .none (.some qa)),qQ 12 (.len qa),qQ 13 (.mv (qC 0))] (.block 2 (.loop jpr))
def j9s:IC:=.seq (qr [qM 18,qP (.mv qa),qR 0 true (.fld 0 (.g 19)),qS 1 true (.load 1 false qa),qR 2 true (.bin .eq qa (qC 2)),qP (.pick qd qa (.c (.s (.bool false)))),qP (.mv qa),qR 0 true (.fld 2 (.g 19)),qS 1 true (.load 1 false qa),qR 2 true (.not qa),qP (.pick qd qa (.c (.s (.bool false)))),qP (.mv qa),qR 0 true (.fld 2 (.g 25)),qS 1 true (.load 1 false qa),qS 2 true (.load 2 true (.g 17)),qS 3 true (.call 108 [qb,qa]),qQ 15 (.pick (.l 4) qa (.c (.s (.bool false))))] (.cond (.g 15) (qr [qQ 2 (.mv (.c (.s (.bool true))))] .ret) .skip)) jzf
def j9t:IC:=.seq (.block 1 (qr [qM 24,qP (.ixs 5 (.g 21) (.g 24)),qK 5,qB 19 (.new 80 Za),qQ 14 (.mv qd),qA (.store 5 qb qc)] (qr [qA (.load 2 true (.g 20)),qA (.load 3 true (.g 25)),qA (.load 5 true (.g 19)),qA (.call 107 [qc,qb,qa]),qP (.mv qa),qP (.ext 0 qa),qP (.ext 1 qb),qB 17 (.new 83 Zf),qA (.store 2 qa qc),qQ 18 (.mv qc)] (.seq (qr [qM 18,qP (.mv qa),qR 0 true (.fld 2 (.g 19)),qS 1 true (.load 1 false qa),qP (.pick qc qa (.c (.s (.bool false)))),qP (.mv qa),qR 0 true (.fld 2 (.g 25)),qS 1 true (.load 1 false qa),qS 2 true (.load 2 true (.g 17)),qS 3 true (.call 108 [qb,qa]),qQ 16 (.pick (.l 4) qa (.c (.s (.bool false))))] (.cond (.g 16) (qr [qQ 2 (.mv (.c (.s (.bool true))))] .ret) .skip)) j9s)))) (.region [qI 24,qT 24])
def jps:IC:=qr [qQ 22 (.bin .lt (.g 24) (.g 23))] (.seq (qX 22 0) j9t)
def qie:IC:=qr [qB 20 (.box 32 (.g 0)),qB 25 (.box 62 (.g 1)),qQ 2 (.mv (.c (.s (.bool false))))] (.seq (qr [qF 1 25,qB 21 (.load 1 false qa),qQ 23 (.len qa),qQ 24 (.mv (qC 0))] (.block 0 (.loop jps))) (qr [qQ 2 (.mv (.c (.s (.bool false))))] .ret))
theorem qzy:T 85=some (.mk qie 2 24 [(.tmp 2)]):=ka
def qif:IC:=.seq (.block 1 (qr [qP (.ixs 2 (.g 16) (.g 19)),qK 2,qB 15 (.new 83 Zf),qA (.store 2 qa qb)] (qr [qF 0 15,qL,qM 3,qQ 14 (.bin .eq qb qa)] (.cond (.g 14) (.region [qM 13,qP (.bin .add qa (qC 1)),qT 13]) .skip)))) (.region [qI 19,qT 19])
def j1s:IC:=qr [qQ 17 (.bin .lt (.g 19) (.g 18))] (.seq (qX 17 0) qif)
def qig:IC:=.seq (.block 3 (qr [qP (.ixs 5 (.g 9) (.g 12)),qK 5,qB 7 (.new 80 Za),qA (.store 5 qa qb)] (qr [qF 0 8,qL,qF 1 7,qL,qP (.ixs 1 qc qa),qL,qM 3,qP (.bin .eq qb qa),qP (.mv qa),qR 0 true (.fld 3 (.g 7)),qS 1 true (.load 1 false qa),qR 2 true (.bin .ne qa (qC 1)),qP (.pick qd qa (.c (.s (.bool false)))),qP (.mv qa),qR 0 true (.fld 3 (.g 7)),qS 1 true (.load 1 false qa),qR 2 true (.bin .ne qa (qC 3)),qQ 6 (.pick qd qa (.c (.s (.bool false))))] (.cond (.g 6) (.region [qM 13,qP (.bin .add qa (qC 1)),qT 13]) .skip)))) (.region [qI 12,qT 12])
def jwt:IC:=qr [qQ 10 (.bin .lt (.g 12) (.g 11))] (.seq (qX 10 2) qig)
def qs1:IC:=qr [qB 8 (.box 32 (.g 0)),qB 5 (.box 28 (.g 1)),qB 20 (.box 62 (.g 2)),qQ 4 (.mv (.c (.s (.bool false))))] (qr [qQ 13 (.mv (qC 0))] (.seq (qr [qF 2 20,qB 16 (.load 1 false qa),qQ 18 (.len qa),qQ 19 (.mv (qC 0))] (.block 0 (.loop j1s))) (.seq (qr [qF 1 20,qB 9 (.load 1 false qa),qQ 11 (.len qa),qQ 12 (.mv (qC 0))] (.block 2 (.loop jwt))) (qr [qM 13,qM 3,qF 0 5,qP (.ixa 2 1 qa qb),qL,qP (.bin .lt (.l 4) qa),qT 4] .ret))))
theorem q4y:T 86=some (.mk qs1 4 17 [(.tmp 4)]):=ka
def j9u:IC:=.seq (.block 1 (qr [qP (.ixs 5 (.g 24) (.g 27)),qK 5,qB 21 (.new 80 Za),qA (.store 5 qa qb)] (qr [qA (.load 2 true (.g 23)),qA (.load 2 true (.g 22)),qA (.load 5 true (.g 21)),qA (.call 82 [qc,qb,qa]),qT 20] (qr [qM 20,qQ 19 (.bin .ne qa (qC 0))] (.cond (.g 19) (qr [qM 20,qT 3] .ret) .skip))))) (.region [qI 27,qT 27])
def jte:IC:=qr [qQ 25 (.bin .lt (.g 27) (.g 26))] (.seq (qX 25 0) j9u)
def j9v:IC:=qr [qA (.load 2 true (.g 23)),qA (.load 3 true (.g 29)),qA (.load 5 true (.g 14)),qA (.call 83 [qc,qb,qa]),qT 12] (qr [qM 12,qQ 11 (.bin .ne qa (qC 0))] (.cond (.g 11) (qr [qM 12,qT 3] .ret) .skip))
def j9w:IC:=.seq (.block 3 (qr [qP (.ixs 5 (.g 15) (.g 18)),qK 5,qB 14 (.new 80 Za),qA (.store 5 qa qb)] (.seq (qr [qF 3 14,qL,qQ 13 (.bin .ne qa (qC 5))] (.cond (.g 13) (.exit 3) .skip)) j9v))) (.region [qI 18,qT 18])
def jpt:IC:=qr [qQ 16 (.bin .lt (.g 18) (.g 17))] (.seq (qX 16 2) j9w)
def j9x:IC:=.seq (.block 5 (qr [qM 7,qT 5] (qr [qA (.load 2 true (.g 23)),qA (.load 2 true (.g 22)),qA (.load 3 true (.g 29)),qM 5,qA (.call 86 [qd,qc,qb,qa]),qQ 4 (.not qa)] (.cond (.g 4) (qr [qQ 3 (.mv (qC 8))] .ret) .skip)))) (.region [qI 7,qT 7])
def j9y:IC:=qr [qQ 6 (.bin .lt (.g 7) (qC 2))] (.seq (qX 6 4) j9x)
def j9z:IC:=.seq (qr [qQ 7 (.mv (qC 0))] (.block 4 (.loop j9y))) (qr [qQ 3 (.mv (qC 0))] .ret)
def j90:IC:=.seq (qr [qA (.load 2 true (.g 23)),qA (.load 3 true (.g 29)),qB 8 (.call 85 [qb,qa])] (.cond (.g 8) (qr [qQ 3 (.mv (qC 12))] .ret) .skip)) j9z
def j91:IC:=.seq (qr [qF 1 29,qB 24 (.load 1 false qa),qQ 26 (.len qa),qQ 27 (.mv (qC 0))] (.block 0 (.loop jte))) (.seq (qr [qF 1 29,qB 15 (.load 1 false qa),qQ 17 (.len qa),qQ 18 (.mv (qC 0))] (.block 2 (.loop jpt))) (.seq (qr [qA (.load 2 true (.g 22)),qF 2 29,qL,qA (.call 84 [qc,qa]),qT 10] (qr [qM 10,qQ 9 (.bin .ne qa (qC 0))] (.cond (.g 9) (qr [qM 10,qT 3] .ret) .skip))) j90))
def qih:IC:=qr [qB 23 (.box 32 (.g 0)),qB 22 (.box 28 (.g 1)),qB 29 (.box 62 (.g 2)),qQ 3 (.mv (qC 0))] (.seq (qr [qF 0 29,qL,qP (.bin .lt qa (qC 0)),qP (.mv qa),qR 0 false (.fld 0 (.g 29)),qS 1 false (.load 1 false qa),qR 2 false (.bin .gt qa (qC 255)),qQ 28 (.pick qd (.c (.s (.bool true))) qa)] (.cond (.g 28) (qr [qQ 3 (.mv (qC 2))] .ret) .skip)) j91)
theorem qzz:T 59=some (.mk qih 3 27 [(.tmp 3)]):=ka
def j1t:IC:=.draw [(qA (.load 2 true (.g 14)),.some []),(qM 12,.none),(qM 4,.none),(qP (.ixs 1 qb qa),.none),(qL,.some [3]),(qA (.call 87 [.l 4,qa]),.some []),(qP (.not qa),.none),(qP (.mv qa),.none),(qR 0 false (.fld 0 (.g 14)),.none),(qS 1 false (.load 1 false qa),.some []),(qR 2 false (.mv (.g 12)),.none),(qR 3 false (.mv (.g 4)),.none),(qR 4 false (.ixs 1 qb qa),.none),(qS 5 false (.load 1 false qa),.some [3]),(qR 6 false (.ixs 1 (.l 4) qa),.none),(qS 7 false (.load 1 false qa),.some []),(qR 8 false (.fld 0 (.g 14)),.none),(qS 9 false (.load 1 false qa),.some [1,3,7]),(qR 10 false (.mv (.g 6)),.none),(qR 11 false (.ixs 1 qb qa),.none),(qS 12 false (.load 1 false qa),.some [4,6,10]),(qR 13 false (.bin .ne (.l 5) qa),.none),(qQ 3 (.pick (.l 14) (.c (.s (.bool true))) qa),.none)]
def j1u:IC:=.seq j1t (.cond (.g 3) (qr [qQ 2 (.mv (qC 17))] .ret) .skip)
def j1v:IC:=.seq (.block 1 (qr [qM 10,qP (.ixs 1 (.g 7) (.g 10)),qL,qQ 4 (.mv qc),qQ 6 (.mv qb)] (.seq (qr [qA (.load 2 true (.g 14)),qM 6,qA (.call 87 [qb,qa]),qQ 5 (.not qa)] (.cond (.g 5) (qr [qQ 2 (.mv (qC 2))] .ret) .skip)) j1u))) (.region [qI 10,qT 10])
def jnd:IC:=qr [qQ 8 (.bin .lt (.g 10) (.g 9))] (.seq (qX 8 0) j1v)
def j1w:IC:=.seq (qr [qF 1 15,qB 7 (.load 1 false qa),qQ 9 (.len qa),qQ 10 (.mv (qC 0))] (.block 0 (.loop jnd))) (qr [qQ 2 (.mv (qC 0))] .ret)
def j1x:IC:=qr [qF 1 14,qL,qF 0 15,qL,qP (.ixs 3 qc qa),qG 0,qL,qT 12] (.seq (qr [qF 1 15,qL,qP (.len qa),qM 12,qP (.len qa),qQ 11 (.bin .ne qc qa)] (.cond (.g 11) (qr [qQ 2 (.mv (qC 4))] .ret) .skip)) j1w)
def j92:IC:=qr [qB 14 (.box 32 (.g 0)),qB 15 (.box 65 (.g 1)),qQ 2 (.mv (qC 0))] (.seq (qr [qF 0 15,qL,qP (.bin .lt qa (qC 1)),qP (.mv qa),qR 0 false (.fld 0 (.g 15)),qS 1 false (.load 1 false qa),qR 2 false (.fld 1 (.g 14)),qS 3 false (.load 1 false qa),qR 4 false (.len qa),qR 5 false (.bin .ge qd qa),qQ 13 (.pick (.l 6) (.c (.s (.bool true))) qa)] (.cond (.g 13) (qr [qQ 2 (.mv (qC 6))] .ret) .skip)) j1x)
theorem qs2:T 60=some (.mk j92 2 14 [(.tmp 2)]):=ka
def j93:IC:=.seq (.block 3 (qr [qP (.ixs 1 (.g 20) (.g 23)),qL,qT 18] (qr [qM 19,qM 18,qA (.callv qb [qa]),qT 17] (qr [qM 17,qQ 16 (.bin .ne qa (qC 0))] (.cond (.g 16) (qr [qM 17,qT 1] .ret) .skip))))) (.region [qI 23,qT 23])
def jtf:IC:=qr [qQ 21 (.bin .lt (.g 23) (.g 22))] (.seq (qX 21 2) j93)
def j94:IC:=qr [qM 19,qF 1 6,qL,qA (.callv qc [qa]),qT 4] (qr [qM 4,qQ 3 (.bin .ne qa (qC 0))] (.cond (.g 3) (qr [qM 4,qT 1] .ret) .skip))
def j95:IC:=.seq (.block 7 (qr [qP (.ixs 5 (.g 7) (.g 10)),qK 5,qB 6 (.new 80 Za),qA (.store 5 qa qb)] (.seq (qr [qF 0 6,qL,qQ 5 (.bin .ne qa (qC 2))] (.cond (.g 5) (.exit 7) .skip)) j94))) (.region [qI 10,qT 10])
def jtg:IC:=qr [qQ 8 (.bin .lt (.g 10) (.g 9))] (.seq (qX 8 6) j95)
def j96:IC:=.seq (.block 5 (qr [qP (.ixs 3 (.g 12) (.g 15)),qK 3,qB 11 (.new 62 Zg),qA (.store 3 qa qb)] (qr [qF 1 11,qB 7 (.load 1 false qa),qQ 9 (.len qa),qQ 10 (.mv (qC 0))] (.block 6 (.loop jtg))))) (.region [qI 15,qT 15])
def jth:IC:=qr [qQ 13 (.bin .lt (.g 15) (.g 14))] (.seq (qX 13 4) j96)
def j97:IC:=.seq (.block 1 (qr [qP (.ixs 3 (.g 25) (.g 28)),qK 3,qB 24 (.new 58 Zi),qA (.store 3 qa qb)] (.seq (qr [qF 0 24,qB 20 (.load 1 false qa),qQ 22 (.len qa),qQ 23 (.mv (qC 0))] (.block 2 (.loop jtf))) (qr [qF 1 24,qB 12 (.load 1 false qa),qQ 14 (.len qa),qQ 15 (.mv (qC 0))] (.block 4 (.loop jth)))))) (.region [qI 28,qT 28])
def jti:IC:=qr [qQ 26 (.bin .lt (.g 28) (.g 27))] (.seq (qX 26 0) j97)
def j98:IC:=qr [qQ 1 (.mv (qC 0))] .ret
def qii:IC:=qr [qB 30 (.box 32 (.g 0)),qQ 1 (.mv (qC 0))] (qr [qF 0 30,qL,qP (.len qa),qA (.mkslice 4 1 1 [.bool false] qa qa),qB 29 (.new 130 [.nilSlice]),qA (.store 1 qa qb)] (qr [qP (.mkfun 88 [.g 30,.g 29]),qT 19] (.seq (qr [qF 1 30,qB 25 (.load 1 false qa),qQ 27 (.len qa),qQ 28 (.mv (qC 0))] (.block 0 (.loop jti))) (.seq (qr [qA (.load 1 false (.g 29)),qB 2 (.call 89 [qa,.c (.s (.bool false))])] (.cond (.g 2) (qr [qQ 1 (.mv (qC 6))] .ret) .skip)) j98))))
theorem qz0:T 61=some (.mk qii 1 30 [(.tmp 1)]):=ka
def j99:IC:=qr [qA (.load 1 false (.g 2)),qM 0,qP (.ixs 1 qb qa),qA (.store 1 qa (.c (.s (.bool true))))] (qr [qQ 3 (.mv (qC 0))] .ret)
def qaa:IC:=.seq (qr [qA (.load 1 false (.g 2)),qM 0,qP (.ixs 1 qb qa),qB 4 (.load 1 false qa)] (.cond (.g 4) (qr [qQ 3 (.mv (qC 7))] .ret) .skip)) j99
def qij:IC:=qr [qQ 3 (.mv (qC 0))] (.seq (qr [qA (.load 2 true (.g 1)),qM 0,qA (.call 87 [qb,qa]),qQ 5 (.not qa)] (.cond (.g 5) (qr [qQ 3 (.mv (qC 2))] .ret) .skip)) qaa)
theorem qz1:T 88=some (.mk qij 3 3 [(.tmp 3)]):=ka
def qab:IC:=.seq (.block 1 (qr [qP (.ixs 1 (.g 26) (.g 29)),qL,qT 25] (qr [qM 25,qP (.bin .lt qa (qC 0)),qP (.mv qa),qR 0 false (.mv (.g 25)),qR 1 false (.bin .ge qa (qC 2)),qQ 24 (.pick qc (.c (.s (.bool true))) qa)] (.cond (.g 24) (qr [qQ 2 (.mv (qC 17))] .ret) .skip)))) (.region [qI 29,qT 29])
def jtj:IC:=qr [qQ 27 (.bin .lt (.g 29) (.g 28))] (.seq (qX 27 0) qab)
def qac:IC:=.seq (.block 5 (qr [qP (.ixs 3 (.g 14) (.g 17)),qK 3,qB 13 (.new 62 Zg),qA (.store 3 qa qb)] (qr [qA (.load 2 true (.g 32)),qA (.load 2 true (.g 35)),qA (.load 3 true (.g 13)),qA (.call 59 [qc,qb,qa]),qT 12] (qr [qM 12,qQ 11 (.bin .ne qa (qC 0))] (.cond (.g 11) (qr [qM 12,qT 2] .ret) .skip))))) (.region [qI 17,qT 17])
def jtk:IC:=qr [qQ 15 (.bin .lt (.g 17) (.g 16))] (.seq (qX 15 4) qac)
def qad:IC:=.seq (.block 7 (qr [qP (.ixs 2 (.g 6) (.g 9)),qK 2,qB 5 (.new 65 Zh),qA (.store 2 qa qb)] (qr [qA (.load 2 true (.g 32)),qA (.load 2 true (.g 5)),qA (.call 60 [qb,qa]),qT 4] (qr [qM 4,qQ 3 (.bin .ne qa (qC 0))] (.cond (.g 3) (qr [qM 4,qT 2] .ret) .skip))))) (.region [qI 9,qT 9])
def jtl:IC:=qr [qQ 7 (.bin .lt (.g 9) (.g 8))] (.seq (qX 7 6) qad)
def jzg:IC:=qr [qF 2 18,qB 6 (.load 1 false qa),qQ 8 (.len qa),qQ 9 (.mv (qC 0))] (.block 6 (.loop jtl))
def qae:IC:=.seq (.block 3 (qr [qP (.ixs 3 (.g 19) (.g 22)),qK 3,qB 18 (.new 58 Zi),qA (.store 3 qa qb)] (.seq (qr [qF 1 18,qB 14 (.load 1 false qa),qQ 16 (.len qa),qQ 17 (.mv (qC 0))] (.block 4 (.loop jtk))) (.seq (qr [qF 2 18,qL,qP (.len qa),qP (.bin .gt qa (qC 1)),qP (.mv qa),qR 0 true (.fld 1 (.g 18)),qS 1 true (.load 1 false qa),qR 2 true (.len qa),qR 3 true (.bin .eq qa (qC 0)),qQ 10 (.pick (.l 4) qa (.c (.s (.bool false))))] (.cond (.g 10) (qr [qQ 2 (.mv (qC 4))] .ret) .skip)) jzg)))) (.region [qI 22,qT 22])
def jtm:IC:=qr [qQ 20 (.bin .lt (.g 22) (.g 21))] (.seq (qX 20 2) qae)
def qaf:IC:=.seq (qr [qF 1 32,qB 19 (.load 1 false qa),qQ 21 (.len qa),qQ 22 (.mv (qC 0))] (.block 2 (.loop jtm))) (qr [qA (.load 2 true (.g 32)),qA (.call 61 [qa]),qT 2] .ret)
def qag:IC:=.seq (qr [qF 0 32,qB 26 (.load 1 false qa),qQ 28 (.len qa),qQ 29 (.mv (qC 0))] (.block 0 (.loop jtj))) (.seq (qr [qF 1 32,qL,qP (.ixs 3 qa (qC 0)),qG 0,qL,qP (.len qa),qQ 23 (.bin .gt qa (qC 0))] (.cond (.g 23) (qr [qQ 2 (.mv (qC 4))] .ret) .skip)) qaf)
def qah:IC:=.seq (qr [qA (.load 2 true (.g 32)),qA (.call 58 [qa]),qT 31] (qr [qM 31,qQ 30 (.bin .ne qa (qC 0))] (.cond (.g 30) (qr [qM 31,qT 2] .ret) .skip))) qag
def qik:IC:=qr [qB 32 (.box 32 (.g 0)),qB 35 (.box 28 (.g 1)),qQ 2 (.mv (qC 0))] (.seq (qr [qA (.load 2 true (.g 35)),qA (.call 57 [qa]),qT 34] (qr [qM 34,qQ 33 (.bin .ne qa (qC 0))] (.cond (.g 33) (qr [qM 34,qT 2] .ret) .skip))) qah)
theorem qz2:T 41=some (.mk qik 2 34 [(.tmp 2)]):=ka
def qil:IC:=qr [qB 3 (.box 83 (.g 1)),qQ 2 (.mv (.c (.s (.bool false))))] (qr [qM 0,qA (.load 2 true (.g 3)),qA (.call 119 [qb,qa]),qP (.bin .ge qa (qC 0)),qT 2] .ret)
theorem qz3:T 108=some (.mk qil 2 2 [(.tmp 2)]):=ka
def j1y:IC:=.draw [(qA (.load 2 true (.g 5)),.some []),(qM 0,.none),(qM 4,.none),(qP (.ixs 2 qb qa),.none),(qK 2,.some [3]),(qQ 3 (.eqv false true [false,false] (.l 4) qa),.none)]
def j1z:IC:=.seq (.block 1 (qr [qM 8,qT 4] (.seq j1y (.cond (.g 3) (qr [qM 4,qT 2] .ret) .skip)))) (.region [qI 8,qT 8])
def jne:IC:=qr [qQ 6 (.bin .lt (.g 8) (.g 7))] (.seq (qX 6 0) j1z)
def qai:IC:=qr [qB 5 (.box 83 (.g 1)),qQ 2 (.mv (qC 0))] (.seq (qr [qM 0,qQ 7 (.len qa),qQ 8 (.mv (qC 0))] (.block 0 (.loop jne))) (qr [qQ 2 (.mv (qC (-1)))] .ret))
theorem qs3:T 119=some (.mk qai 2 7 [(.tmp 2)]):=ka
def qim:IC:=qr [qQ 2 (.mv (.c (.s (.bool false))))] (qr [qM 0,qM 1,qA (.call 110 [qb,qa]),qP (.bin .ge qa (qC 0)),qT 2] .ret)
theorem qz4:T 89=some (.mk qim 2 1 [(.tmp 2)]):=ka
def j10:IC:=.seq (.block 1 (qr [qM 7,qT 4] (qr [qM 1,qM 0,qM 4,qP (.ixs 1 qb qa),qL,qQ 3 (.eqv false false [true] (.l 4) qa)] (.cond (.g 3) (qr [qM 4,qT 2] .ret) .skip)))) (.region [qI 7,qT 7])
def jnf:IC:=qr [qQ 5 (.bin .lt (.g 7) (.g 6))] (.seq (qX 5 0) j10)
def qaj:IC:=qr [qQ 2 (.mv (qC 0))] (.seq (qr [qM 0,qQ 6 (.len qa),qQ 7 (.mv (qC 0))] (.block 0 (.loop jnf))) (qr [qQ 2 (.mv (qC (-1)))] .ret))
theorem qs4:T 110=some (.mk qaj 2 6 [(.tmp 2)]):=ka
open Go Go.RowKit Go.Proofs.YtkpadfebkaangaaGreatDoor.Ms
variable {x0 x1 x2 x3 x4 x5 x6 x7 x8 x9 x10 x11 x12 x13 x14 x15 x16 x17 x18 x19 x20 x21 x22 x23 x24 x25 x26 x27 x28 x29 x30 x31 x33 x34 x35:AV} {agg:Bool} {fr st vs:List AV} {ms ns ps:List Nat} {row:List SV} {v bO bP bR bX ukd:Nat} {r:Nat×Nat}
set_option maxHeartbeats 2000000
theorem jdw {h:Hp} (ok:Ok h) (cs:List SV) (ty:Nat):∃ hA,h.push (AB.arr cs ty)=hA/\Ok hA/\hA.next=h.next+1/\hA.get h.next=some (.arr cs ty)/\∀ k,k<h.next->hA.get k=h.get k :=
 ⟨_,rfl,ja9 ok,Hp.next_push ..,by rw[ja3 ok,if_pos rfl],fun k hk=>by rw[ja3 ok,if_neg oa]⟩
theorem jby {h:Hp} (ok:Ok h) (zs cs:List SV) (ty:Nat):∃ hA,(h.push (AB.arr zs ty)).put h.next (some (.arr cs ty))=hA/\Ok hA/\hA.next=h.next+1/\hA.get h.next=some (.arr cs ty)/\∀ k,k<h.next->hA.get k=h.get k:=by
 have hp:=ok.pos
 exact⟨_,rfl,jas (ja9 ok),by rw[Hp.next_put,Hp.next_push],by rw[jak (ja9 ok) hp,if_pos rfl],fun k hk=>by rw[jak (ja9 ok) hp,if_neg oa,ja3 ok,if_neg oa]⟩
def qnc (n size:Nat) (agg:Bool) (x i:Option AV):Option AV:=ob x (fun v=>ob i (fun w=>AV.casesOn v (fun _=>none) (fun cs=>below w n (fun m=>ob (jbp size (jb9 (Nat.mul m size) cs)) (fun cs=>jgs agg cs))) (fun _=>none) none none))
theorem qak {n size:Nat} {x i:Od}:pop st fr (.ival n size agg x i)=qnc n size agg (ev st fr x) (ev st fr i):=rfl
theorem qnd {a b:SV}:qnc 2 1 false (some (.agg [a,b])) (some (vi 0))=some (.s a):=rfl
theorem qne {a b:SV}:qnc 2 1 false (some (.agg [a,b])) (some (vi 1))=some (.s b):=rfl
def qz5 (neg agg:Bool) (sig:List Bool) (x y:Option AV):Option AV:=ob x (fun a=>ob y (fun b=>qdb agg a (fun xs=>qdb agg b (fun ys=>ob (jcu sig xs ys) (fun e=>some (AV.s (SV.bool (oif neg (jis e) e))))))))
theorem jpu {neg:Bool} {sig:List Bool} {x y:Od}:pop st fr (.eqv neg agg sig x y)=qz5 neg agg sig (ev st fr x) (ev st fr y):=rfl
theorem qs5 {a b c d:Int}:qz5 false true [false,false] (some (.agg [.int .i64 a,.int .i64 b])) (some (.agg [.int .i64 c,.int .i64 d]))=some (vb (decide (a=c/\b=d))):=by
 show some (AV.s (SV.bool (oif (ieq a c) (oif (ieq b d) true false) false)))=_
 rw[jdi,jdi]
 by_cases h1:a=c<;>by_cases h2:b=d<;>simp[h1,h2,jat]
theorem q1c {a b:Bool}:qz5 false false [true] (some (vb a)) (some (vb b))=some (vb (decide (a=b))):=by
 cases a<;>cases b<;>rfl
theorem qs6 {h:Hp} (ok:Ok h) {m:Nat×Nat} (m1:2<=m.1/\m.1<=10) (m2:2<=m.2/\m.2<=10):WC F3 57 [.agg [si m.1,si m.2]] h (fun v h'=>∃ d,jf9 true h' d v=some (vi 0)):=by
 refine jaz (no3 rfl rfl rfl) q4w rfl ?_
 unfold qsv
 obtain⟨hA,eA,okA,nA,xA,gA⟩:=jdw ok [si m.1,si m.2] 28
 have a1:((m.1:Int)<2)=False:=by simp;omega
 have a2:(10<(m.1:Int))=False:=by simp;omega
 have b1:((m.2:Int)<2)=False:=by simp;omega
 have b2:(10<(m.2:Int))=False:=by simp;omega
 simp(disch:=go_num) only[go_sem,eA,xA]
 rw[jai]
 unfold qh6 qh5
 simp(disch:=go_num) only[go_sem,jad,qak,qnd,a1,a2]
 rw[jai]
 simp(disch:=go_num) only[go_sem,jad,qak,qne,b1,b2]
 rw[jai]
 simp(disch:=go_num) only[go_sem]
 exact⟨1,rfl⟩
abbrev Zk(f:Fc):List SV:=[jaf jav f.values,jaf ja6 f.blocks]
theorem qnf {h:Hp} (ok:Ok h) {f:Fc} (hv:v<f.values.length):WC F3 87 [.agg (Zk f),vi v] h (fun v h'=>∃ d,jf9 true h' d v=some (vb true)):=by
 refine jaz (no3 rfl rfl rfl) qzx rfl ?_
 unfold qic
 obtain⟨hA,eA,okA,nA,xA,gA⟩:=jdw ok (Zk f) 32
 have a1:(0<=(v:Int))=True:=se
 have a2:((v:Int)<(f.values.length:Int))=True:=by simp;omega
 have ll:=jah (enc:=jav) (l:=f.values)
 simp(disch:=go_num) only[go_sem,eA,xA,a1,a2,ll]
 exact⟨1,rfl⟩
theorem qs7 {l:List Ms.Ins} (hl:l.length<=10000) (hp:∀ x∈l,x.ops.length<=6/\x.spoils.length<=20) {Q:Ex->St->Prop} :
 ∀ (d i:Nat) (_:i+d=l.length) {hi:Hp} (_:Ok hi) {x2 x3 x5:AV}
  (hQ:∀ hj x2 x3 x5,Ok hj->hi.next<=hj.next->(∀ k,k<hi.next->hj.get k=hi.get k)->Q (.exit 2) (.mk [x0,x1,x2,x3,.s (jaf jdd l),x5,vi l.length,vi l.length,x8,x9,x10,x11,x12,x13,x14,x15,x16,x17] hj)),
  W F3 j1i.loop (.mk [x0,x1,x2,x3,.s (jaf jdd l),x5,vi l.length,vi i,x8,x9,x10,x11,x12,x13,x14,x15,x16,x17] hi) Q
 | 0,i,hd,hi,ok,x2,x3,x5,hQ=>by
  obtain rfl:i=l.length:=oa
  rw[jai]
  unfold j1i
  simp(disch:=go_num) only[go_sem,f0s]
  exact hQ hi _ _ _ ok (f0h _) (fun _ _=>rfl)
 | d+1,i,hd,hi,ok,x2,x3,x5,hQ=>by
  have hlt:(i:Int)<l.length:=oa
  obtain⟨x,hget⟩:∃ x,l[i]?=some x:=⟨_,f0b oa⟩
  have hx:=hp x (f0c hget)
  have hix:=jaj (enc:=jdd) (size:=3) hget rfl
  have hs:(i:Int)+1=((i+1:Nat):Int):=oa
  obtain⟨hA,eA,okA,nA,xA,gA⟩:=jby ok Zg (jdd x) 62
  have l1:=jah (enc:=jbc) (l:=x.ops)
  have l2:=jah (enc:=jcq) (l:=x.spoils)
  have c1:(6<(x.ops.length:Int))=False:=by simp;omega
  have c2:(20<(x.spoils.length:Int))=False:=by simp;omega
  unfold jdd at xA eA
  rw[jai]
  unfold j1i qh7
  simp(disch:=go_num) only[go_sem,jad,eq_true hlt,hix,jdd,eA,xA,l1,l2,c1,c2,hs]
  exact qs7 hl hp d (i+1) oa okA (fun hj x2 x3 x5 o n g=>hQ hj x2 x3 x5 o oa (fun k hk=>(g k oa).trans (gA k hk)))
theorem jwu {l:List Blk} {i:Nat} {b:Blk} (h:l[i]?=some b):sm (l.take (i+1))=sm (l.take i)+b.instrs.length:=by
 have hi:i<l.length:=by
  rcases f0n i l.length with h1 | h1
  .exact h1
  .rw [f0y h1] at h;cases h
 rw[f0b hi] at h
 obtain rfl:=Option.some.inj h
 rw[List.take_succ_eq_append_getElem hi,jpq]
 simp[sm]
theorem j5v (l:List Blk) (i:Nat):sm (l.take i)<=sm l:=by
 have:sm (l.take i++l.drop i)=sm (l.take i)+sm (l.drop i):=jpq _ _
 rw[List.take_append_drop] at this;omega
theorem qin {m:Nat×Nat} {f:Fc} (k:FcOk m f) {Q:Ex->St->Prop} :
 ∀ (d i:Nat) (_:i+d=f.blocks.length) {hi:Hp} (_:Ok hi) {x2 x3 x4 x5 x6 x7 x8 x10 x11 x13:AV}
  (hQ:∀ hj x2 x3 x4 x5 x6 x7 x8 x9 x10 x11 x13,Q (.exit 0) (.mk [x0,x1,x2,x3,x4,x5,x6,x7,x8,x9,x10,x11,.s (jaf ja6 f.blocks),x13,vi f.blocks.length,vi f.blocks.length,x16,x17] hj)),
  W F3 j1j.loop (.mk [x0,x1,x2,x3,x4,x5,x6,x7,x8,vi (sm (f.blocks.take i)),x10,x11,.s (jaf ja6 f.blocks),x13,vi f.blocks.length,vi i,x16,x17] hi) Q
 | 0,i,hd,hi,ok,x2,x3,x4,x5,x6,x7,x8,x10,x11,x13,hQ=>by
  obtain rfl:i=f.blocks.length:=oa
  rw[jai]
  unfold j1j
  simp(disch:=go_num) only[go_sem,f0s]
  exact hQ hi ..
 | d+1,i,hd,hi,ok,x2,x3,x4,x5,x6,x7,x8,x10,x11,x13,hQ=>by
  have nb:=k.nb
  have hlt:(i:Int)<f.blocks.length:=oa
  obtain⟨b,hget⟩:∃ b,f.blocks[i]?=some b:=⟨_,f0b oa⟩
  have hmem:=f0c hget
  have hb:=k.blk b hmem
  have hin:∀ x∈b.instrs,x.ops.length<=6/\x.spoils.length<=20:=fun x hx=>⟨(k.ins b hmem x hx).nops,(k.ins b hmem x hx).nsp⟩
  have hix:=jaj (enc:=ja6) (size:=3) hget rfl
  have hs:(i:Int)+1=((i+1:Nat):Int):=oa
  have hsm:=jwu hget
  have hle:=j5v f.blocks (i+1)
  have hall:=k.all
  have hadd:((sm (f.blocks.take i):Nat):Int)+(b.instrs.length:Int)=((sm (f.blocks.take (i+1)):Nat):Int):=oa
  obtain⟨hA,eA,okA,nA,xA,gA⟩:=jby ok Zi (ja6 b) 58
  have l1:=jah (enc:=jav) (l:=b.params)
  have l2:=jah (enc:=jdd) (l:=b.instrs)
  have l3:=jah (enc:=jeo) (l:=b.edges)
  have c1:(5<(b.params.length:Int))=False:=by simp;omega
  have c2:(40<(b.instrs.length:Int))=False:=by simp;omega
  have c3:(3<(b.edges.length:Int))=False:=by simp;omega
  have c4:(160<((sm (f.blocks.take (i+1)):Nat):Int))=False:=by simp;omega
  unfold ja6 at xA eA
  rw[jai]
  unfold j1j qia qh9 qh8
  simp(disch:=go_num) only[go_sem,jad,eq_true hlt,hix,ja6,eA,xA,l1,l2,l3,c1,c2,c3,hadd,c4]
  refine qs7 oa hin b.instrs.length 0 oa okA (fun hj x2 x3 x5 o n g=>?_)
  simp(disch:=go_num) only[go_sem,jad,hs]
  exact qin k d (i+1) oa o hQ
theorem qs8 {h:Hp} (ok:Ok h) {m:Nat×Nat} {f:Fc} (k:FcOk m f):WC F3 58 [.agg (Zk f)] h (fun v h'=>∃ d,jf9 true h' d v=some (vi 0)):=by
 refine jaz (no3 rfl rfl rfl) q4x rfl ?_
 unfold qsw
 have nb:=k.nb
 have nv:=k.nv
 obtain⟨hA,eA,okA,nA,xA,gA⟩:=jdw ok (Zk f) 32
 have l1:=jah (enc:=jav) (l:=f.values)
 have l2:=jah (enc:=ja6) (l:=f.blocks)
 have c1:((f.blocks.length:Int)<1)=False:=by simp;omega
 have c2:(16<(f.blocks.length:Int))=False:=by simp;omega
 have c3:(160<(f.values.length:Int))=False:=by simp;omega
 simp(disch:=go_num) only[go_sem,eA,xA,l1,l2,c1,c2,c3]
 unfold qib
 simp(disch:=go_num) only[go_sem,xA,l2]
 refine qin k f.blocks.length 0 oa okA (fun hj x2 x3 x4 x5 x6 x7 x8 x9 x10 x11 x13=>?_)
 simp(disch:=go_num) only[go_sem]
 exact⟨1,rfl⟩
theorem jpv {vs:List Nat} (h:v<vs.length):vs[v]?=some (cl vs v):=by
 unfold cl;rw[f0p,f0b h];rfl
theorem qng {h:Hp} (ok:Ok h) {f:Fc} {x:Ms.Ins} {o u:Ms.Opd} (h1:x.ops[o.n]?=some u) (h2:u.kind=1) (h3:u.late=false) (h4:cl f.values u.value=cl f.values o.value) (h5:u.value<f.values.length) (h6:o.value<f.values.length) :
 WC F3 83 [.agg (Zk f),.agg [si x.op,jaf jbc x.ops,jaf jcq x.spoils],.agg [si o.kind,si o.value,.bool o.late,si o.limit,si o.n]] h (fun v h'=>∃ d,jf9 true h' d v=some (vi 0)):=by
 obtain⟨kd,vl,lt,lm,n⟩:=o
 obtain⟨ukd,uvl,ult,ulm,un⟩:=u
 simp only at h1 h2 h3 h4 h5 h6
 subst h2 h3
 refine jaz (no3 rfl rfl rfl) qsy rfl ?_
 unfold j9o
 obtain⟨hA,eA,okA,nA,xA,gA⟩:=jdw ok (Zk f) 32
 obtain⟨hB,eB,okB,nB,xB,gB⟩:=jdw okA [si x.op,jaf jbc x.ops,jaf jcq x.spoils] 62
 obtain⟨hC,eC,okC,nC,xC,gC⟩:=jdw okB [si kd,si vl,.bool lt,si lm,si n] 80
 obtain⟨hD,eD,okD,nD,xD,gD⟩:=jby okC Za [si 1,si uvl,.bool false,si ulm,si un] 80
 have yA:=(gC _ oa).trans ((gB _ oa).trans xA)
 have yB:=(gC _ oa).trans xB
 have zA:=(gD _ oa).trans yA
 have zC:=(gD _ oa).trans xC
 have nb:hB.next=h.next+2:=oa
 have nc:hC.next=h.next+3:=oa
 rw[nA] at xB yB
 rw[nb] at xC zC
 rw[nc] at eD xD
 have hl:n<x.ops.length:=by
  rcases f0n n x.ops.length with h7 | h7
  .exact h7
  .rw [f0y h7] at h1;cases h1
 have l1:=jah (enc:=jbc) (l:=x.ops)
 have ix:=jaj (enc:=jbc) (size:=5) h1 rfl
 have i1:=jaj (enc:=jav) (size:=1) (jpv h5) rfl
 have i2:=jaj (enc:=jav) (size:=1) (jpv h6) rfl
 have c1:((n:Int)<0)=False:=se
 have c2:((x.ops.length:Int)<=(n:Int))=False:=by simp;omega
 have c3:(((1:Nat):Int)≠1)=False:=se
 have c4:((cl f.values uvl:Int)≠(cl f.values vl:Int))=False:=by simp[h4]
 simp(disch:=go_num) only[go_sem,eA,eB,eC,nA,nb,xA,yA,yB,xC,l1,ix,jbc,c1,c2]
 unfold j1n j1m j1l j1k
 simp(disch:=go_num) only[go_sem,yA,yB,xC,ix,jbc,eD,nc,xD,zA,zC,i1,i2,jav,c4]
 exact⟨1,rfl⟩
theorem jng {bm:Nat} {m:Nat×Nat} {l:List (Nat×Nat)} (hl:l.length<=10000) (hr:∀ r∈l,r.1<2/\r.2<g2 m r.1) (hord:∀ (i:Nat) (q r:Nat×Nat),l[i]?=some q->l[i+1]?=some r->q.1<r.1∨(q.1=r.1/\q.2<r.2)) {Q:Ex->St->Prop} :
 ∀ (d i:Nat) (_:i+d=l.length) {hi:Hp} (_:Ok hi) (_:bm<hi.next) (_:hi.get bm=some (.arr [si m.1,si m.2] 28)) {x3 x4 x5 x7 x9:AV}
  (hQ:∀ hj x3 x4 x5 x7 x9,Q (.exit 0) (.mk [x0,.s (jaf jcq l),x2,x3,x4,x5,.s (.ptr bm 0),x7,.s (jaf jcq l),x9,vi l.length,vi l.length] hj)),
  W F3 jnc.loop (.mk [x0,.s (jaf jcq l),x2,x3,x4,x5,.s (.ptr bm 0),x7,.s (jaf jcq l),x9,vi l.length,vi i] hi) Q
 | 0,i,hd,hi,ok,hb,xb,x3,x4,x5,x7,x9,hQ=>by
  obtain rfl:i=l.length:=oa
  rw[jai]
  unfold jnc
  simp(disch:=go_num) only[go_sem,f0s]
  exact hQ hi ..
 | d+1,i,hd,hi,ok,hb,xb,x3,x4,x5,x7,x9,hQ=>by
  have hlt:(i:Int)<l.length:=oa
  obtain⟨⟨c,n⟩,hget⟩:∃ x,l[i]?=some x:=⟨_,f0b oa⟩
  have hx:=hr _ (f0c hget)
  have hix:=jaj (enc:=jcq) (size:=2) hget rfl
  have hs:(i:Int)+1=((i+1:Nat):Int):=oa
  obtain⟨hA,eA,okA,nA,xA,gA⟩:=jby ok Zf (jcq (c,n)) 83
  have yb:=(gA _ hb).trans xb
  unfold jcq at xA eA
  simp only at xA eA hx
  have c1:((c:Int)<0)=False:=se
  have c2:(2<=(c:Int))=False:=by simp;omega
  have c3:((n:Int)<0)=False:=se
  have hm:(c=0/\n<m.1)∨(c=1/\n<m.2):=by
   have:c=0∨c=1:=oa
   rcases this with rfl | rfl
   .exact .inl ⟨rfl,hx.2⟩
   .exact .inr ⟨rfl,hx.2⟩
  have hrd:∃ k,rdB (hA.get bm) c 1=some [si (k:Nat)]/\n<k:=by
   rw[yb]
   rcases hm with⟨rfl,h⟩ | ⟨rfl,h⟩
   .exact ⟨m.1,rfl,h⟩
   .exact ⟨m.2,rfl,h⟩
  obtain⟨k,hrd,hk⟩:=hrd
  have hxa:=jic (n:=2) (size:=1) (b:=bm) (off:=0) (m:=c) oa
  rw[f1b,f12] at hxa
  have c4:((k:Int)<=(n:Int))=False:=by simp;omega
  rw[jai]
  unfold jnc j1p j1o
  simp(disch:=go_num) only[go_sem,jad,eq_true hlt,hix,jcq,eA,xA,c1,c2,c3,hxa,hrd,c4]
  have xA':=xA
  cases i with
  | zero =>
   unfold jtc jtb
   simp(disch:=go_num) only[go_sem,jad,hix,jcq,eA,xA,hs,f0s]
   exact jng hl hr hord d (0+1) oa okA oa yb hQ
  | succ j =>
   obtain⟨⟨pc,pn⟩,hp⟩:∃ x,l[j]?=some x:=⟨_,f0b oa⟩
   have hpx:=jaj (enc:=jcq) (size:=2) hp rfl
   have ho:=hord j _ _ hp hget
   simp only at ho
   have p0:(0<((j+1:Nat):Int))=True:=eq_true oa
   have p1:((j+1:Nat):Int) - 1=(j:Int):=oa
   have q1:((c:Int)<(pc:Int))=False:=by simp;omega
   unfold jtc jtb
   by_cases e:pc=c
   .subst e
    have q2:((pc:Int)=(pc:Int))=True:=se
    have q3:((n:Int)<=(pn:Int))=False:=by simp;omega
    simp(disch:=go_num) only[go_sem,jad,hix,hpx,jcq,eA,xA,hs,p0,p1,q1,q2,q3]
    exact jng hl hr hord d (j+1+1) oa okA oa yb hQ
   .have q2:((pc:Int)=(c:Int))=False:=by simp;omega
    simp(disch:=go_num) only[go_sem,jad,hix,hpx,jcq,eA,xA,hs,p0,p1,q1,q2]
    exact jng hl hr hord d (j+1+1) oa okA oa yb hQ
theorem qnh {h:Hp} (ok:Ok h) {m:Nat×Nat} {l:List (Nat×Nat)} (hl:l.length<=10000) (hr:∀ r∈l,r.1<2/\r.2<g2 m r.1) (hord:∀ (i:Nat) (q r:Nat×Nat),l[i]?=some q->l[i+1]?=some r->q.1<r.1∨(q.1=r.1/\q.2<r.2)) :
 WC F3 84 [.agg [si m.1,si m.2],.s (jaf jcq l)] h (fun v h'=>∃ d,jf9 true h' d v=some (vi 0)):=by
 refine jaz (no3 rfl rfl rfl) qsz rfl ?_
 unfold j9p
 obtain⟨hA,eA,okA,nA,xA,gA⟩:=jdw ok [si m.1,si m.2] 28
 have l1:=jah (enc:=jcq) (l:=l)
 simp(disch:=go_num) only[go_sem,eA,xA,l1]
 refine jng hl hr hord l.length 0 oa okA oa xA (fun hj x3 x4 x5 x7 x9=>?_)
 simp(disch:=go_num) only[go_sem]
 exact⟨1,rfl⟩
theorem jwv {h:Hp} (ok:Ok h) {kd vl lm n uvl ulm un:Nat} {lt ult:Bool} (ha:kd=1) (hb:ukd=1∨ukd=2):WC F3 109 [.agg [si kd,si vl,.bool lt,si lm,si n],.agg [si ukd,si uvl,.bool ult,si ulm,si un]] h (fun v h'=>v=vb (if ukd=1 then decide (vl≠uvl) else (lt || !ult))):=by
 refine jaz (no3 rfl rfl rfl) qid rfl ?_
 unfold jze
 obtain⟨hA,eA,okA,nA,xA,gA⟩:=jdw ok [si kd,si vl,.bool lt,si lm,si n] 80
 obtain⟨hB,eB,okB,nB,xB,gB⟩:=jdw okA [si ukd,si uvl,.bool ult,si ulm,si un] 80
 have yA:=(gB _ oa).trans xA
 rw[nA] at xB
 have a1:((kd:Int)=1)=True:=eq_true oa
 have a2:((kd:Int)=2)=False:=eq_false oa
 by_cases e1:ukd=1
 .have b1:((ukd:Int)=1)=True:=eq_true oa
  simp(disch:=go_num) only[go_sem,eA,nA,eB,xB,yA,a1,b1]
  rw[if_pos e1]
  by_cases e:vl=uvl
  .subst e;simp
  .have:¬ ((vl:Int)=(uvl:Int)):=oa
   simp[e,this]
 .have b1:((ukd:Int)=1)=False:=eq_false oa
  rw[if_neg e1]
  cases lt<;>cases ult<;>(simp(disch:=go_num) only[go_sem,eA,nA,eB,xB,yA,a1,a2,b1];try rfl)
theorem qf5 {h:Hp} (ok:Ok h) {kd vl lm n uvl ulm un:Nat} {lt ult:Bool} (ha:kd=1∨kd=2) (hb:ukd=1∨ukd=2):WC F3 109 [.agg [si kd,si vl,.bool lt,si lm,si n],.agg [si ukd,si uvl,.bool ult,si ulm,si un]] h (fun v h'=>∃ b d,jf9 true h' d v=some (vb b)):=by
 rcases ha with ha | ha
 .exact WC.imp (jwv ok ha hb) (fun v h' e=>by subst e;exact⟨_,1,rfl⟩)
 .refine jaz (no3 rfl rfl rfl) qid rfl ?_
  unfold jze
  obtain⟨hA,eA,okA,nA,xA,gA⟩:=jdw ok [si kd,si vl,.bool lt,si lm,si n] 80
  obtain⟨hB,eB,okB,nB,xB,gB⟩:=jdw okA [si ukd,si uvl,.bool ult,si ulm,si un] 80
  have yA:=(gB _ oa).trans xA
  rw[nA] at xB
  have a1:((kd:Int)=1)=False:=eq_false oa
  have a2:((kd:Int)=2)=True:=eq_true oa
  rcases hb with hb | hb
  .have b2:((ukd:Int)=2)=False:=eq_false oa
   simp(disch:=go_num) only[go_sem,eA,nA,eB,xB,yA,a1,a2,b2]
   refine WC.imp (jwv okB hb (.inr ha)) (fun v h' e=>?_)
   subst e
   simp(disch:=go_num) only[go_sem]
   exact⟨_,1,rfl⟩
  .have b2:((ukd:Int)=2)=True:=eq_true oa
   simp(disch:=go_num) only[go_sem,eA,nA,eB,xB,yA,a1,a2,b2]
   exact⟨_,1,rfl⟩
def qu0:Option (Nat×Nat)->AV
 | none=>.tup [(true,[si 0,si 0]),(false,[.bool false])]
 | some r=>.tup [(true,[si r.1,si r.2]),(false,[.bool true])]
theorem j11 {hi:Hp} (ok:Ok hi) {f:Fc} {s:Ms.Opd} (h2:s.value<f.values.length) {bF:Nat} (p1:1<=bR) (xF:hi.get bF=some (.arr (Zk f) 32)) (xO:hi.get bO=some (.arr [si s.kind,si s.value,.bool s.late,si s.limit,si s.n] 80)) (xR:hi.get bR=some (.arr [si 0,si 0] 83)) :
 W F3 jtd (.mk [x0,x1,x2,vb false,.s (.ptr bF 0),.s (.ptr bR 0),x6,x7,x8,.s (.ptr bO 0)] hi) (jqh [(.cell 5 2 true),(.tmp 3)] (fun v h'=>∃ d,jf9 true h' d v=some (qu0 (if s.limit=4 then some (cl f.values s.value,s.n) else none)))):=by
 have ix:=jaj (enc:=jav) (size:=1) (jpv h2) rfl
 unfold jtd
 by_cases e:s.limit=4
 .have c1:((s.limit:Int)≠4)=False:=by grind
  rw[if_pos e]
  simp(disch:=rfl) only[go_sem,xO,c1]
  unfold j1r j1q
  simp(disch:=omega) only[go_sem,xF,xO,ix,jav,xR]
  exact⟨1,rfl⟩
 .have c1:((s.limit:Int)≠4)=True:=by simp;omega
  rw[if_neg e]
  simp(disch:=go_num) only[go_sem,xO,c1,xR]
  exact⟨1,rfl⟩
theorem qni {h:Hp} (ok:Ok h) {f:Fc} {x:Ms.Ins} {o:Ms.Opd} (h1:o.limit=5->∃ u,x.ops[o.n]?=some u/\u.value<f.values.length) (h2:o.value<f.values.length) :
 WC F3 107 [.agg (Zk f),.agg [si x.op,jaf jbc x.ops,jaf jcq x.spoils],.agg [si o.kind,si o.value,.bool o.late,si o.limit,si o.n]] h (fun v h'=>∃ d,jf9 true h' d v=some (qu0 (jiq f.values x.ops o))):=by
 refine jaz (no3 rfl rfl rfl) qs0 rfl ?_
 unfold j9q
 have hp:=ok.pos
 obtain⟨hA,eA,okA,nA,xA,gA⟩:=jdw ok (Zk f) 32
 obtain⟨hB,eB,okB,nB,xB,gB⟩:=jdw okA [si x.op,jaf jbc x.ops,jaf jcq x.spoils] 62
 obtain⟨hC,eC,okC,nC,xC,gC⟩:=jdw okB [si o.kind,si o.value,.bool o.late,si o.limit,si o.n] 80
 obtain⟨hD,eD,okD,nD,xD,gD⟩:=jdw okC Zf 83
 have yA:=(gD _ oa).trans ((gC _ oa).trans ((gB _ oa).trans xA))
 have yB:=(gD _ oa).trans ((gC _ oa).trans xB)
 have yC:=(gD _ oa).trans xC
 have nb:hB.next=h.next+2:=oa
 have nc:hC.next=h.next+3:=oa
 rw[nA] at yB
 rw[nb] at yC
 rw[nc] at xD
 by_cases e:o.limit=5
 .obtain ⟨u,hu,hul⟩:=h1 e
  have c1:((o.limit:Int)=5)=True:=by simp;omega
  have ix:=jaj (enc:=jbc) (size:=5) hu rfl
  have es:jiq f.values x.ops o=if u.limit=4 then some (cl f.values u.value,u.n) else none:=by
   unfold jiq qh2
   rw[if_pos e,f0p,hu];rfl
  rw[es]
  obtain⟨hE,eE⟩:∃ hE,hD.put (h.next+2) (some (.arr [si u.kind,si u.value,.bool u.late,si u.limit,si u.n] 80))=hE:=⟨_,rfl⟩
  have okE:Ok hE:=by rw[←eE];exact jas okD
  have zA:hE.get h.next=some (.arr (Zk f) 32):=by rw[←eE,jak okD oa,if_neg oa];exact yA
  have zC:hE.get (h.next+2)=some (.arr [si u.kind,si u.value,.bool u.late,si u.limit,si u.n] 80):=by rw[←eE,jak okD oa,if_pos rfl]
  have zD:hE.get (h.next+3)=some (.arr [si 0,si 0] 83):=by rw[←eE,jak okD oa,if_neg oa];exact xD
  simp(disch:=go_num) only[go_sem,eA,eB,eC,eD,nA,nb,nc,yA,yB,yC,c1,ix,jbc,eE]
  exact j11 okE hul oa zA zC zD
 .have c1:((o.limit:Int)=5)=False:=by simp;omega
  have es:jiq f.values x.ops o=if o.limit=4 then some (cl f.values o.value,o.n) else none:=by
   unfold jiq qh2
   rw[if_neg e]
  rw[es]
  simp(disch:=go_num) only[go_sem,eA,eB,eC,eD,nA,nb,nc,yA,yB,yC,c1]
  exact j11 okD h2 oa yA yC xD
theorem j12 {l:List (Nat×Nat)} (hr:r∉l) {br:Nat} {Q:Ex->St->Prop} :
 ∀ (d i:Nat) (_:i+d=l.length) {hi:Hp} (_:Ok hi) (_:l.length<=10000) (_:hi.get br=some (.arr [si r.1,si r.2] 83)) {x2 x3 x4 x6:AV}
  (hQ:∀ hj x2 x3 x4 x6,Q (.exit 0) (.mk [.s (jaf jcq l),x1,x2,x3,x4,.s (.ptr br 0),x6,vi l.length,vi l.length] hj)),
  W F3 jne.loop (.mk [.s (jaf jcq l),x1,x2,x3,x4,.s (.ptr br 0),x6,vi l.length,vi i] hi) Q
 | 0,i,hd,hi,ok,hl,xb,x2,x3,x4,x6,hQ=>by
  obtain rfl:i=l.length:=oa
  rw[jai]
  unfold jne
  simp(disch:=rfl) only[go_sem,f0s]
  grind
 | d+1,i,hd,hi,ok,hl,xb,x2,x3,x4,x6,hQ=>by
  have hlt:(i:Int)<l.length:=oa
  obtain⟨⟨c,n⟩,hget⟩:∃ x,l[i]?=some x:=⟨_,f0b oa⟩
  have hix:=jaj (enc:=jcq) (size:=2) hget rfl
  have hs:(i:Int)+1=((i+1:Nat):Int):=oa
  have hne:((r.1:Int)=(c:Int)/\(r.2:Int)=(n:Int))=False:=eq_false (fun h=>hr (by
   have e:r=(c,n):=by
    obtain⟨a,b⟩:=r
    simp only at h;simp;omega
   rw[e];exact f0c hget))
  have hne':((c:Int)=(r.1:Int)/\(n:Int)=(r.2:Int))=False:=by
   rw[show((c:Int)=(r.1:Int)/\(n:Int)=(r.2:Int))=((r.1:Int)=(c:Int)/\(r.2:Int)=(n:Int)) from propext ⟨fun h=>⟨h.1.symm,h.2.symm⟩,fun h=>⟨h.1.symm,h.2.symm⟩⟩]
   exact hne
  rw[jai]
  unfold jne j1z j1y
  simp(disch:=go_num) only[go_sem,jad,eq_true hlt,hix,jcq,xb,jpu,qs5,hne,hne',hs]
  exact j12 hr d (i+1) oa ok hl xb hQ
theorem qnj {h:Hp} (ok:Ok h) {l:List (Nat×Nat)} (hr:r∉l) (hl:l.length<=10000):WC F3 119 [.s (jaf jcq l),.agg [si r.1,si r.2]] h (fun v h'=>v=vi (-1)):=by
 refine jaz (no3 rfl rfl rfl) qs3 rfl ?_
 unfold qai
 obtain⟨hA,eA,okA,nA,xA,gA⟩:=jdw ok [si r.1,si r.2] 83
 have l1:=jah (enc:=jcq) (l:=l)
 simp(disch:=rfl) only[go_sem,eA,l1]
 refine j12 hr l.length 0 oa okA hl xA (fun hj x2 x3 x4 x6=>?_)
 simp(disch:=omega) only[go_sem]
theorem qnk {h:Hp} (ok:Ok h) {l:List (Nat×Nat)} (hr:r∉l) (hl:l.length<=10000):WC F3 108 [.s (jaf jcq l),.agg [si r.1,si r.2]] h (fun v h'=>∃ d,jf9 true h' d v=some (vb false)):=by
 refine jaz (no3 rfl rfl rfl) qz3 rfl ?_
 unfold qil
 obtain⟨hA,eA,okA,nA,xA,gA⟩:=jdw ok [si r.1,si r.2] 83
 simp(disch:=rfl) only[go_sem,eA,xA]
 refine WC.imp (qnj okA hr hl) (fun v h' e=>?_)
 subst e
 simp   only[go_sem]
 exact⟨1,rfl⟩
theorem qf6 {l:List (Nat×Nat)} {c:Nat} {x0 x1 x2 x4 x5 x6 x7 x8 x9 x10 x11 x12 x20:AV} {Q:Ex->St->Prop} (hl:l.length<=10000) :
 ∀ (d i:Nat) (_:i+d=l.length) {hi:Hp} (_:Ok hi) {x14 x15 x17:AV}
  (hQ:∀ hj x14 x15 x17,Ok hj->hi.next<=hj.next->(∀ k,k<hi.next->hj.get k=hi.get k)->Q (.exit 0) (.mk [x0,x1,x2,vi c,x4,x5,x6,x7,x8,x9,x10,x11,x12,vi (l.countP (fun r=>decide (r.1=c))),x14,x15,.s (jaf jcq l),x17,vi l.length,vi l.length,x20] hj)),
  W F3 j1s.loop (.mk [x0,x1,x2,vi c,x4,x5,x6,x7,x8,x9,x10,x11,x12,vi ((l.take i).countP (fun r=>decide (r.1=c))),x14,x15,.s (jaf jcq l),x17,vi l.length,vi i,x20] hi) Q
 | 0,i,hd,hi,ok,x14,x15,x17,hQ=>by
  obtain rfl:i=l.length:=oa
  rw[jai,f2v]
  unfold j1s
  simp(disch:=go_num) only[go_sem,f0s]
  grind
 | d+1,i,hd,hi,ok,x14,x15,x17,hQ=>by
  have hlt:(i:Int)<l.length:=oa
  have hil:i<l.length:=oa
  obtain⟨x,hget⟩:∃ x,l[i]?=some x:=⟨_,f0b hil⟩
  have hix:=jaj (enc:=jcq) (size:=2) hget rfl
  have hs:(i:Int)+1=((i+1:Nat):Int):=oa
  have hcnt:(l.take (i+1)).countP (fun r=>decide (r.1=c))=(l.take i).countP (fun r=>decide (r.1=c))+if x.1=c then 1 else 0:=by
   rw[f0b hil] at hget
   rw[List.take_succ_eq_append_getElem hil,List.countP_append,Option.some.inj hget,List.countP_singleton]
   by_cases h:x.1=c<;>simp[h]
  have hle:(l.take i).countP (fun r=>decide (r.1=c))<=10000:=f02 List.countP_le_length (by rw[f1r];omega)
  obtain⟨hA,eA,okA,nA,xA,gA⟩:=jby ok Zf (jcq x) 83
  unfold jcq at xA eA
  rw[jai]
  unfold j1s qif
  by_cases e:x.1=c
  .have c1:((x.1:Int)=(c:Int))=True:=by simp;omega
   rw[if_pos e] at hcnt
   have hadd:(((l.take i).countP (fun r=>decide (r.1=c)):Nat):Int)+1=(((l.take (i+1)).countP (fun r=>decide (r.1=c)):Nat):Int):=oa
   simp(disch:=go_num) only[go_sem,jad,eq_true hlt,hix,jcq,eA,xA,c1,hadd,hs]
   exact qf6 hl d (i+1) oa okA (fun hj x14 x15 x17 o n g=>hQ hj x14 x15 x17 o oa (fun k hk=>(g k oa).trans (gA k hk)))
  .have c1:((x.1:Int)=(c:Int))=False:=by simp;omega
   rw[if_neg e] at hcnt
   have hadd:(l.take i).countP (fun r=>decide (r.1=c))=(l.take (i+1)).countP (fun r=>decide (r.1=c)):=oa
   simp(disch:=go_num) only[go_sem,jad,eq_true hlt,hix,jcq,eA,xA,c1,hs]
   rw[hadd]
   exact qf6 hl d (i+1) oa okA (fun hj x14 x15 x17 o n g=>hQ hj x14 x15 x17 o oa (fun k hk=>(g k oa).trans (gA k hk)))
theorem qio {f:Fc} {l:List Ms.Opd} {c n0 bF:Nat} {Q:Ex->St->Prop} (hl:l.length<=10000) (hn:n0<=10000) (hv:∀ o∈l,o.value<f.values.length) :
 ∀ (d i:Nat) (_:i+d=l.length) {hi:Hp} (_:Ok hi) (_:bF<hi.next) (_:hi.get bF=some (.arr (Zk f) 32)) {x6 x7 x10:AV}
  (hQ:∀ hj x6 x7 x10,Ok hj->hi.next<=hj.next->(∀ k,k<hi.next->hj.get k=hi.get k)->Q (.exit 2) (.mk [x0,x1,x2,vi c,x4,x5,x6,x7,.s (.ptr bF 0),.s (jaf jbc l),x10,vi l.length,vi l.length,vi (n0+l.countP (jcz f.values c):Nat),x14,x15,x16,x17,x18,x19,x20] hj)),
  W F3 jwt.loop (.mk [x0,x1,x2,vi c,x4,x5,x6,x7,.s (.ptr bF 0),.s (jaf jbc l),x10,vi l.length,vi i,vi (n0+(l.take i).countP (jcz f.values c):Nat),x14,x15,x16,x17,x18,x19,x20] hi) Q
 | 0,i,hd,hi,ok,hb,xF,x6,x7,x10,hQ=>by
  obtain rfl:i=l.length:=oa
  rw[jai,f2v]
  unfold jwt
  simp(disch:=go_num) only[go_sem,f0s]
  grind
 | d+1,i,hd,hi,ok,hb,xF,x6,x7,x10,hQ=>by
  have hlt:(i:Int)<l.length:=oa
  have hil:i<l.length:=oa
  obtain⟨o,hget⟩:∃ x,l[i]?=some x:=⟨_,f0b hil⟩
  have hov:=hv o (f0c hget)
  have hix:=jaj (enc:=jbc) (size:=5) hget rfl
  have iv:=jaj (enc:=jav) (size:=1) (jpv hov) rfl
  have hs:(i:Int)+1=((i+1:Nat):Int):=oa
  have hcnt:(l.take (i+1)).countP (jcz f.values c)=(l.take i).countP (jcz f.values c)+if jcz f.values c o=true then 1 else 0:=by
   rw[f0b hil] at hget
   rw[List.take_succ_eq_append_getElem hil,List.countP_append,Option.some.inj hget,List.countP_singleton]
  have hle:(l.take i).countP (jcz f.values c)<=10000:=f02 List.countP_le_length (by rw[f1r];omega)
  obtain⟨hA,eA,okA,nA,xA,gA⟩:=jby ok Za (jbc o) 80
  have yF:=(gA _ hb).trans xF
  have hrec:∀ {x6 x7 x10:AV},W F3 jwt.loop (.mk [x0,x1,x2,vi c,x4,x5,x6,x7,.s (.ptr bF 0),.s (jaf jbc l),x10,vi l.length,vi (i+1:Nat),vi (n0+(l.take (i+1)).countP (jcz f.values c):Nat),x14,x15,x16,x17,x18,x19,x20] hA) Q:=fun {x6 x7 x10} =>
   qio hl hn hv d (i+1) oa okA oa yF (fun hj x6 x7 x10 o n g=>hQ hj x6 x7 x10 o oa (fun k hk=>(g k oa).trans (gA k hk)))
  have hno:jcz f.values c o=false->n0+(l.take i).countP (jcz f.values c)=n0+(l.take (i+1)).countP (jcz f.values c):=fun h=>by rw[hcnt,h];simp
  unfold jbc at xA eA
  rw[jai]
  unfold jwt qig
  by_cases e1:cl f.values o.value=c
  .have c1:((cl f.values o.value:Int)=(c:Int))=True:=by simp;omega
   by_cases e2:o.limit=1
   .have c2:((o.limit:Int)≠1)=False:=by simp;omega
    simp(disch:=go_num) only[go_sem,jad,eq_true hlt,hix,jbc,eA,xA,yF,iv,jav,c1,c2,hs]
    rw[hno (by unfold jcz;simp[e2])]
    exact hrec
   .have c2:((o.limit:Int)≠1)=True:=by simp;omega
    by_cases e3:o.limit=3
    .have c3:((o.limit:Int)≠3)=False:=by simp;omega
     simp(disch:=go_num) only[go_sem,jad,eq_true hlt,hix,jbc,eA,xA,yF,iv,jav,c1,c2,c3,hs]
     rw[hno (by unfold jcz;simp[e3])]
     exact hrec
    .have c3:((o.limit:Int)≠3)=True:=by simp;omega
     have hadd:((n0+(l.take i).countP (jcz f.values c):Nat):Int)+1=((n0+(l.take (i+1)).countP (jcz f.values c):Nat):Int):=by
      rw[hcnt,if_pos (by unfold jcz;simp[e1,e2,e3])];omega
     simp(disch:=go_num) only[go_sem,jad,eq_true hlt,hix,jbc,eA,xA,yF,iv,jav,c1,c2,c3,hs,hadd]
     exact hrec
  .have c1:((cl f.values o.value:Int)=(c:Int))=False:=by simp;omega
   simp(disch:=go_num) only[go_sem,jad,eq_true hlt,hix,jbc,eA,xA,yF,iv,jav,c1,hs]
   rw[hno (by unfold jcz;simp[e1])]
   exact hrec
theorem qs9 {h:Hp} (ok:Ok h) {f:Fc} {m:Nat×Nat} {x:Ms.Ins} {c:Nat} (hc:c<2) (k:InsOk m f.values x):WC F3 86 [.agg (Zk f),.agg [si m.1,si m.2],.agg [si x.op,jaf jbc x.ops,jaf jcq x.spoils],vi c] h (fun v h'=>∃ d,jf9 true h' d v=some (vb true)):=by
 refine jaz (no3 rfl rfl rfl) q4y rfl ?_
 unfold qs1
 have k1:=k.nops
 have k2:=k.nsp
 obtain⟨hA,eA,okA,nA,xA,gA⟩:=jdw ok (Zk f) 32
 obtain⟨hB,eB,okB,nB,xB,gB⟩:=jdw okA [si m.1,si m.2] 28
 obtain⟨hC,eC,okC,nC,xC,gC⟩:=jdw okB [si x.op,jaf jbc x.ops,jaf jcq x.spoils] 62
 have yA:=(gC _ oa).trans ((gB _ oa).trans xA)
 have yB:=(gC _ oa).trans xB
 have nb:hB.next=h.next+2:=oa
 rw[nA] at yB
 rw[nb] at xC
 have l1:=jah (enc:=jcq) (l:=x.spoils)
 have l2:=jah (enc:=jbc) (l:=x.ops)
 simp(disch:=go_num) only[go_sem,eA,eB,eC,nA,nb,xC,l1]
 have h1:=@qf6 x.spoils c
 refine qf6 (l:=x.spoils) (c:=c) oa x.spoils.length 0 oa okC (fun hj x14 x15 x17 o n g=>?_)
 have zA:=(g _ oa).trans yA
 have zB:=(g _ oa).trans yB
 have zC:=(g _ oa).trans xC
 simp(disch:=go_num) only[go_sem,zC,l2]
 have hcp:x.spoils.countP (fun r=>decide (r.1=c))<=10000:=f02 List.countP_le_length oa
 refine qio (f:=f) (l:=x.ops) (c:=c) (n0:=x.spoils.countP (fun r=>decide (r.1=c))) oa hcp (fun o ho=>(k.opd o ho).val) x.ops.length 0 oa o oa zA (fun hj x6 x7 x10 o n g=>?_)
 have wB:=(g _ oa).trans zB
 have hrd:∃ k,rdB (hj.get (h.next+1)) c 1=some [si (k:Nat)]/\g2 m c=k:=by
  rw[wB]
  have:c=0∨c=1:=oa
  rcases this with rfl | rfl
  .exact ⟨m.1,rfl,rfl⟩
  .exact ⟨m.2,rfl,rfl⟩
 obtain⟨r,hrd,hr⟩:=hrd
 have hxa:=jic (n:=2) (size:=1) (b:=h.next+1) (off:=0) (m:=c) oa
 rw[f1b,f12] at hxa
 have hlt:=k.need c hc
 rw[hr] at hlt
 have c1:(((x.spoils.countP (fun r=>decide (r.1=c))+x.ops.countP (jcz f.values c):Nat):Int)<(r:Int))=True:=by simp;omega
 simp(disch:=go_num) only[go_sem,hxa,hrd,c1]
 exact⟨1,rfl⟩
theorem ja5:ji5 []=true:=rfl
theorem jaw {a:AV} {l:List AV}:ji5 (a::l)=oif (qpx a) (ji5 l) false:=rfl
theorem jbi {l:List SV}:qpx (.agg l)=qc4 l:=rfl
theorem jdu {v:SV}:qpx (.s v)=grd v:=rfl
theorem jbj:qc4 []=true:=rfl
theorem ja7 {a:SV} {l:List SV}:qc4 (a::l)=oif (grd a) (qc4 l) false:=rfl
theorem jbt {k:IntKind} {n:Int}:grd (.int k n)=true:=rfl
theorem jbu {b:Bool}:grd (.bool b)=true:=rfl
def S4 (f:FuncId):Bool:=Nat.beq f 57||(Nat.beq f 58||(Nat.beq f 87||(Nat.beq f 83||(Nat.beq f 84||(Nat.beq f 109||(Nat.beq f 107||(Nat.beq f 86||Nat.beq f 108)))))))
def F4:Fns:=PX S4 F3
theorem q4z {A:Nat->Int}:Env Tryz.prog A tys F4:=jer q4v
theorem no4 {f:FuncId} (h1:S1 f=false) (h2:Nat.beq f jgm.f=false) (h3:S3 f=false) (h4:S4 f=false) {h:Hp}:jc1 F4 f vs h=none:=(ja0 h4).trans (no3 h1 h2 h3)
section
variable {h:Hp} {f:Fc} {m:Nat×Nat} {Q:AV->Hp->Prop}
theorem qip (hv:v<f.values.length):jc1 F4 87 [.agg (Zk f),vi v] h=some (vb true,h):=jbg rfl (by simp only[jaw,ja5,jbi,jdu,ja7,jbj,jbd,jbt,jbu,jbl,if_true]) (qnf jdv hv)
theorem jjg (hv:v<f.values.length):WC F4 87 [.agg (Zk f),vi v] h Q=Q (vb true) h:=jam (qip hv)
end
theorem qnl {h:Hp} (ok:Ok h) {f:Fc} {m:Nat×Nat} {o:Ms.Opd} (hc:∀ v,cl f.values v<2) (k:OpdOk m f.values o):WC F4 82 [.agg (Zk f),.agg [si m.1,si m.2],.agg [si o.kind,si o.value,.bool o.late,si o.limit,si o.n]] h (fun v h'=>∃ d,jf9 true h' d v=some (vi 0)):=by
 refine jaz (no4 rfl rfl rfl rfl) qsx rfl ?_
 unfold j9n
 obtain⟨hA,eA,okA,nA,xA,gA⟩:=jdw ok (Zk f) 32
 obtain⟨hB,eB,okB,nB,xB,gB⟩:=jdw okA [si m.1,si m.2] 28
 obtain⟨hC,eC,okC,nC,xC,gC⟩:=jdw okB [si o.kind,si o.value,.bool o.late,si o.limit,si o.n] 80
 have yA:=(gC _ oa).trans ((gB _ oa).trans xA)
 have yB:=(gC _ oa).trans xB
 have nb:hB.next=h.next+2:=oa
 rw[nA] at yB
 rw[nb] at xC
 have k1:=k.kind
 have k2:=k.lim
 have k3:=k.val
 have c1:((o.limit:Int)<1)=False:=by simp;omega
 have c2:(5<(o.limit:Int))=False:=by simp;omega
 have kk:((o.kind:Int)≠1)=False∨(((o.kind:Int)≠1)=True/\((o.kind:Int)≠2)=False):=by
  rcases k1 with h | h
  .left;simp;omega
  .right;constructor
   .simp;omega
   .simp;omega
 by_cases e3:o.limit<=3
 .have c3:((o.limit:Int)<=3)=True:=by simp;omega
  have c4:((o.limit:Int)=4)=False:=by simp;omega
  have c5:((o.limit:Int)=5)=False:=by simp;omega
  have c6:((o.n:Int)≠0)=False:=by have:=k.zero e3;simp;omega
  rcases kk with d1 | ⟨d1,d2⟩
  .simp (disch:=go_num) only[go_sem,eA,eB,eC,nA,nb,yA,yB,xC,d1,c1,c2]
   unfold jij jii jih
   simp(disch:=go_num) only[go_sem,yA,yB,xC,c3,c4,c5,c6,jjg k3]
   exact⟨1,rfl⟩
  .simp (disch:=go_num) only[go_sem,eA,eB,eC,nA,nb,yA,yB,xC,d1,d2,c1,c2]
   unfold jij jii jih
   simp(disch:=go_num) only[go_sem,yA,yB,xC,c3,c4,c5,c6,jjg k3]
   exact⟨1,rfl⟩
 .have c3:((o.limit:Int)<=3)=False:=by simp;omega
  by_cases e4:o.limit=4
  .have c4:((o.limit:Int)=4)=True:=by simp;omega
   have c5:((o.limit:Int)=5)=False:=by simp;omega
   have hn:=k.fix e4
   have hcl:=hc o.value
   have iv:=jaj (enc:=jav) (size:=1) (jpv k3) rfl
   have hrd:∃ k,rdB (hC.get (h.next+1)) (cl f.values o.value) 1=some [si (k:Nat)]/\g2 m (cl f.values o.value)=k:=by
    rw[yB]
    have:cl f.values o.value=0∨cl f.values o.value=1:=oa
    rcases this with e | e
    .rw [e];exact⟨m.1,rfl,rfl⟩
    .rw [e];exact⟨m.2,rfl,rfl⟩
   obtain⟨r,hrd,hr⟩:=hrd
   have hxa:=jic (n:=2) (size:=1) (b:=h.next+1) (off:=0) (m:=cl f.values o.value) oa
   rw[f1b,f12] at hxa
   rw[hr] at hn
   have c6:((r:Int)<=(o.n:Int))=False:=by simp;omega
   have c7:((o.n:Int)<0)=False:=se
   rcases kk with d1 | ⟨d1,d2⟩
   .simp (disch:=go_num) only[go_sem,eA,eB,eC,nA,nb,yA,yB,xC,d1,c1,c2]
    unfold jij jii jih
    simp(disch:=go_num) only[go_sem,yA,xC,c3,c4,c5,c6,c7,iv,jav,hxa,hrd,jjg k3]
    exact⟨1,rfl⟩
   .simp (disch:=go_num) only[go_sem,eA,eB,eC,nA,nb,yA,yB,xC,d1,d2,c1,c2]
    unfold jij jii jih
    simp(disch:=go_num) only[go_sem,yA,xC,c3,c4,c5,c6,c7,iv,jav,hxa,hrd,jjg k3]
    exact⟨1,rfl⟩
  .have e5:o.limit=5:=oa
   have c4:((o.limit:Int)=4)=False:=by simp;omega
   have c5:((o.limit:Int)=5)=True:=by simp;omega
   obtain⟨hk,hlt⟩:=k.reu e5
   have d1:((o.kind:Int)≠1)=True:=by simp;omega
   have d2:((o.kind:Int)≠2)=False:=by simp;omega
   rw[hlt] at eC xC ⊢
   simp(disch:=go_num) only[go_sem,eA,eB,eC,nA,nb,yA,yB,xC,d1,d2,c1,c2]
   unfold jij jii jih
   simp(disch:=go_num) only[go_sem,yA,yB,xC,c3,c4,c5,d2,jjg k3]
   exact⟨1,rfl⟩
theorem j13 {f:Fc} {args:List Nat} {bF:Nat} (hl:args.length<=10000) (ha:∀ v∈args,v<f.values.length) (hp:∀ v∈ps,v<f.values.length) (hcl:ps.map (cl f.values)=args.map (cl f.values)) {Q:Ex->St->Prop} :
 ∀ (d i:Nat) (_:i+d=args.length) {hi:Hp} (_:Ok hi) (_:hi.get bF=some (.arr (Zk f) 32)) {x3 x4 x5 x6 x8:AV}
  (hQ:∀ hj x3 x4 x5 x6 x8,Q (.exit 0) (.mk [x0,x1,x2,x3,x4,x5,x6,.s (jaf jav args),x8,vi args.length,vi args.length,x11,.s (jaf jav ps),x13,.s (.ptr bF 0),x15] hj)),
  W F4 jnd.loop (.mk [x0,x1,x2,x3,x4,x5,x6,.s (jaf jav args),x8,vi args.length,vi i,x11,.s (jaf jav ps),x13,.s (.ptr bF 0),x15] hi) Q
 | 0,i,hd,hi,ok,xF,x3,x4,x5,x6,x8,hQ=>by
  obtain rfl:i=args.length:=oa
  rw[jai]
  unfold jnd
  simp(disch:=go_num) only[go_sem,f0s]
  exact hQ hi ..
 | d+1,i,hd,hi,ok,xF,x3,x4,x5,x6,x8,hQ=>by
  have hlt:(i:Int)<args.length:=oa
  have hpl:ps.length=args.length:=by have:=congrArg List.length hcl;simpa using this
  obtain⟨v,hget⟩:∃ x,args[i]?=some x:=⟨_,f0b oa⟩
  obtain⟨u,hpet⟩:∃ x,ps[i]?=some x:=⟨_,f0b oa⟩
  have hv:=ha v (f0c hget)
  have hu:=hp u (f0c hpet)
  have huv:cl f.values u=cl f.values v:=by
   have:=congrArg (fun l=>l[i]?) hcl
   simp only[f09,hget,hpet,f26,Option.some.injEq] at this
   exact this
  have hix:=jaj (enc:=jav) (size:=1) hget rfl
  have hipx:=jaj (enc:=jav) (size:=1) hpet rfl
  have iv:=jaj (enc:=jav) (size:=1) (jpv hv) rfl
  have iu:=jaj (enc:=jav) (size:=1) (jpv hu) rfl
  have hs:(i:Int)+1=((i+1:Nat):Int):=oa
  have c1:((cl f.values u:Int)≠(cl f.values v:Int))=False:=by simp;omega
  rw[jai]
  unfold jnd j1v j1u j1t
  simp(disch:=go_num) only[go_sem,jad,eq_true hlt,hix,hipx,iv,iu,jav,xF,jjg hv,jjg hu,c1,hs]
  exact j13 hl ha hp hcl d (i+1) oa ok xF hQ
theorem qnm {h:Hp} (ok:Ok h) {f:Fc} {e:Ms.Edg} (k:jqv f.values f.blocks e) (hl:e.args.length<=10000):WC F4 60 [.agg (Zk f),.agg [si e.block,jaf jav e.args]] h (fun v h'=>∃ d,jf9 true h' d v=some (vi 0)):=by
 obtain⟨k1,k2,t,k3,k4,k5⟩:=k
 refine jaz (no4 rfl rfl rfl rfl) qs2 rfl ?_
 unfold j92
 obtain⟨hA,eA,okA,nA,xA,gA⟩:=jdw ok (Zk f) 32
 obtain⟨hB,eB,okB,nB,xB,gB⟩:=jdw okA [si e.block,jaf jav e.args] 65
 have yA:=(gB _ oa).trans xA
 rw[nA] at xB
 have hlt:e.block<f.blocks.length:=by
  rcases f0n e.block f.blocks.length with h7 | h7
  .exact h7
  .rw [f0y h7] at k3;cases k3
 have hpl:t.params.length=e.args.length:=by have:=congrArg List.length k4;simpa using this
 have c1:((e.block:Int)<1)=False:=by simp;omega
 have c2:((f.blocks.length:Int)<=(e.block:Int))=False:=by simp;omega
 have c3:((e.args.length:Int)≠(t.params.length:Int))=False:=by simp;omega
 have ix:=jaj (enc:=ja6) (size:=3) k3 rfl
 have l1:=jah (enc:=ja6) (l:=f.blocks)
 have l2:=jah (enc:=jav) (l:=e.args)
 have l3:=jah (enc:=jav) (l:=t.params)
 simp(disch:=go_num) only[go_sem,eA,eB,nA,yA,xB,c1,c2,l1]
 unfold j1x j1w
 simp(disch:=go_num) only[go_sem,yA,xB,ix,ja6,c3,l2,l3]
 refine j13 hl k2 k5 k4 e.args.length 0 oa okB yA (fun hj x3 x4 x5 x6 x8=>?_)
 simp(disch:=go_num) only[go_sem]
 exact⟨1,rfl⟩
section
variable {h:Hp} {f:Fc} {m:Nat×Nat} {Q:AV->Hp->Prop}
theorem qal {op vl lm n kd:Nat} {lt:Bool} {ops:List Ms.Opd} {sp:List (Nat×Nat)} (h1:lm=5->∃ u,ops[n]?=some u/\u.value<f.values.length) (h2:vl<f.values.length):WC F4 107 [.agg (Zk f),.agg [si op,jaf jbc ops,jaf jcq sp],.agg [si kd,si vl,.bool lt,si lm,si n]] h Q=Q (qu0 (jiq f.values ops ⟨kd,vl,lt,lm,n⟩)) h :=
 jam (jbg rfl (by simp[jaw,ja5,jbi,ja7,jbj,jbd,jbt,jbu,jbl]) (qni (x:=⟨op,ops,sp⟩) (o:=⟨kd,vl,lt,lm,n⟩) jdv h1 h2))
theorem qnn {l:List (Nat×Nat)} {a b:Nat} (hr:(a,b)∉l) (hl:l.length<=10000):WC F4 108 [.s (jaf jcq l),.agg [si a,si b]] h Q=Q (vb false) h :=
 jam (jbg rfl (by simp[jaw,ja5,jbi,jdu,ja7,jbj,jbd,jbt,jbl]) (qnk  jdv hr hl))
theorem qf7 {kd vl lm n uvl ulm un:Nat} {lt ult:Bool} (ha:kd=1∨kd=2) (hb:ukd=1∨ukd=2):∃ b,∀ h Q,WC F4 109 [.agg [si kd,si vl,.bool lt,si lm,si n],.agg [si ukd,si uvl,.bool ult,si ulm,si un]] h Q=Q (vb b) h:=by
 obtain⟨n1,v,h',h1,b,d,h2⟩:=qf5         jdv ha hb
 exact⟨b,fun h Q=>jam (jbg rfl (by rfl) ⟨n1,v,h',h1,d,h2⟩)⟩
end
def jpw (l:List Ms.Opd) (i:Nat):SV:=.lst ((l.map jbc).take i)
theorem qf8 {l:List Ms.Opd} {i:Nat} (hi:i<l.length):quz 5 (some (.s (jaf jbc l))) (some (vi (i:Int)))=some (.s (jpw l i)):=by
 cases l with
 | nil=>grind
 | cons a l =>
  show oif (Nat.ble i (jb6 ((a::l).map jbc))) (oif (Nat.ble 0 i) (oif (jq0 5 ((a::l).map jbc)) (ob (jbp (Nat.sub i 0) (jb9 0 ((a::l).map jbc))) fun r=>some (AV.s (.lst r))) none) none) none=_
  have h1:jb6 ((a::l).map jbc)=(a::l).length:=by rw[jba,f03]
  have h2:Nat.ble i (jb6 ((a::l).map jbc))=true:=f2z oa
  have h3:jbp (Nat.sub i 0) (jb9 0 ((a::l).map jbc))=some (((a::l).map jbc).take i):=(ja8 _).2 ⟨by grind[jcb,f1f,f03],by rfl⟩
  rw[h2,h3]
  rfl
theorem qam {l:List Ms.Opd} {i:Nat} (hi:i<l.length):jsn (.s (jpw l i))=some (vi i):=by
 unfold jpw
 grind[jso,f1r,f03,Nat.min_eq_left]
theorem qan {l:List Ms.Opd} {i j:Nat} {o:Ms.Opd} (hj:j<i) (h:l[j]?=some o):jqo 5 (.s (jpw l i)) (vi (j:Int))=some (.s (.cp (jbc o))):=by
 exact jm4 (by grind) rfl
def qno:IC->IC
 | .seq a b=>a
 | c=>c
def qnp:IC->IC
 | .seq a b=>b
 | c=>c
def qf9 (i j:Nat) (o p:Ms.Opd):Bool:=(decide (o.limit=5)&&decide (o.n=j))||(decide (p.limit=5)&&decide (p.n=i))
theorem qnq {hi:Hp} {o p:Ms.Opd} {i j:Nat} (xO:hi.get bO=some (.arr [si o.kind,si o.value,.bool o.late,si o.limit,si o.n] 80)) (xP:hi.get bP=some (.arr [si p.kind,si p.value,.bool p.late,si p.limit,si p.n] 80))
 {x0 x1 x2 x3 x4 x5 x6 x8 x10 x11 x12 x13 x15 x16 x17 x18 x20 x21 x22 x23 x24 x25:AV} {K:Ex->St->Prop} (hK:K .normal (.mk [x0,x1,x2,x3,vb (qf9 i j o p),x5,x6,vi j,x8,.s (.ptr bP 0),x10,x11,x12,x13,vi i,x15,x16,x17,x18,.s (.ptr bO 0),x20,x21,x22,x23,x24,x25] hi)) :
 W F4 (qno jg2) (.mk [x0,x1,x2,x3,x4,x5,x6,vi j,x8,.s (.ptr bP 0),x10,x11,x12,x13,vi i,x15,x16,x17,x18,.s (.ptr bO 0),x20,x21,x22,x23,x24,x25] hi) K:=by
 have right:∀ (c:Prop) [Decidable c],(decide (p.limit=5)&&decide (p.n=i))=decide c->True:=fun _ _ _=>trivial
 unfold jg2
 simp only[qno]
 unfold qf9 at hK
 by_cases e1:o.limit=5
 .have c1:((o.limit:Int)=5)=True:=by grind
  by_cases e2:o.n=j
  .have c2:((o.n:Int)=(j:Int))=True:=by simp;omega
   simp only[e1,e2,decide_true,f21,Bool.true_or] at hK
   simp(disch:=go_num) only[go_sem,xO,xP,c1,c2]
   exact hK
  .have c2:((o.n:Int)=(j:Int))=False:=by simp;omega
   by_cases e3:p.limit=5
   .have c3:((p.limit:Int)=5)=True:=by simp;omega
    by_cases e4:p.n=i
    .have c4:((p.n:Int)=(i:Int))=True:=by simp;omega
     simp only[e1,e2,e3,e4,decide_true,decide_false,f21,f22,f18] at hK
     simp(disch:=go_num) only[go_sem,xO,xP,c1,c2,c3,c4]
     exact hK
    .have c4:((p.n:Int)=(i:Int))=False:=by simp;omega
     simp only[e1,e2,e3,e4,decide_true,decide_false,f21,f22,f18] at hK
     simp(disch:=go_num) only[go_sem,xO,xP,c1,c2,c3,c4]
     exact hK
   .have c3:((p.limit:Int)=5)=False:=by simp;omega
    simp only[e1,e2,e3,decide_true,decide_false,f21,f22,Bool.false_and,f18] at hK
    simp(disch:=go_num) only[go_sem,xO,xP,c1,c2,c3]
    exact hK
 .have c1:((o.limit:Int)=5)=False:=by simp;omega
  by_cases e3:p.limit=5
  .have c3:((p.limit:Int)=5)=True:=by simp;omega
   by_cases e4:p.n=i
   .have c4:((p.n:Int)=(i:Int))=True:=by simp;omega
    simp only[e1,e3,e4,decide_true,decide_false,f21,f22,Bool.false_and,f18] at hK
    simp(disch:=go_num) only[go_sem,xO,xP,c1,c3,c4]
    exact hK
   .have c4:((p.n:Int)=(i:Int))=False:=by simp;omega
    simp only[e1,e3,e4,decide_true,decide_false,f21,f22,Bool.false_and,f18] at hK
    simp(disch:=go_num) only[go_sem,xO,xP,c1,c3,c4]
    exact hK
  .have c3:((p.limit:Int)=5)=False:=by simp;omega
   simp only[e1,e3,decide_true,decide_false,f21,f22,Bool.false_and,f18] at hK
   simp(disch:=go_num) only[go_sem,xO,xP,c1,c3]
   exact hK
def qga:Option (Nat×Nat)->List SV
 | none=>[si 0,si 0]
 | some r=>[si r.1,si r.2]
theorem j14 (x:Option (Nat×Nat)):∃ a b:Nat,qga x=[si a,si b]:=by
 cases x with
 | none=>exact⟨0,0,rfl⟩
 | some r=>exact⟨r.1,r.2,rfl⟩
theorem qao {x:Option (Nat×Nat)} {a b:Nat} (h:qga x=[si a,si b]):qu0 x=.tup [(true,[si a,si b]),(false,[.bool x.isSome])]:=by
 rw[←h];cases x<;>rfl
theorem qgb {hi:Hp} {o p:Ms.Opd} {fo fp:Option (Nat×Nat)} {same:Bool} {bQ:Nat} (ko:o.kind=1∨o.kind=2) (kp:p.kind=1∨p.kind=2) (hs:∀ r,fo=some r->fp=some r->same=true)
 (xO:hi.get bO=some (.arr [si o.kind,si o.value,.bool o.late,si o.limit,si o.n] 80)) (xP:hi.get bP=some (.arr [si p.kind,si p.value,.bool p.late,si p.limit,si p.n] 80))
 (xQ:hi.get bQ=some (.arr (qga fp) 83)) (xR:hi.get bR=some (.arr (qga fo) 83))
 {x0 x1 x2 x3 x7 x8 x10 x11 x12 x13 x14 x15 x16 x20 x21 x22 x23 x24 x25:AV} {K:Ex->St->Prop} (hK:K .normal (.mk [x0,x1,x2,vb false,vb same,.s (.ptr bQ 0),vb fp.isSome,x7,x8,.s (.ptr bP 0),x10,x11,x12,x13,x14,x15,x16,.s (.ptr bR 0),vb fo.isSome,.s (.ptr bO 0),x20,x21,x22,x23,x24,x25] hi)) :
 W F4 (qnp jg2) (.mk [x0,x1,x2,x3,vb same,.s (.ptr bQ 0),vb fp.isSome,x7,x8,.s (.ptr bP 0),x10,x11,x12,x13,x14,x15,x16,.s (.ptr bR 0),vb fo.isSome,.s (.ptr bO 0),x20,x21,x22,x23,x24,x25] hi) K:=by
 unfold jg2
 simp only[qnp]
 cases fo with
 | none =>
  simp only[Option.isSome_none] at hK ⊢
  simp(disch:=rfl) only[go_sem]
  omega
 | some r =>
  cases fp with
  | none =>
   simp only[Option.isSome_none,Option.isSome_some] at hK ⊢
   simp(disch:=go_num) only[go_sem]
   exact hK
  | some q =>
   simp only[Option.isSome_some] at hK ⊢
   unfold qga at xQ xR
   simp only at xQ xR
   by_cases e:q=r
   .subst e
    have:=hs q rfl rfl
    subst this
    have c1:((q.1:Int)=(q.1:Int)/\(q.2:Int)=(q.2:Int))=True:=se
    obtain⟨b,hb⟩:=qf7 (vl:=o.value) (lm:=o.limit) (n:=o.n) (uvl:=p.value) (ulm:=p.limit) (un:=p.n) (lt:=o.late) (ult:=p.late) ko kp
    cases b with
    | true =>
     simp(disch:=go_num) only[go_sem,xO,xP,xQ,xR,jpu,qs5,c1,hb]
     exact hK
    | false =>
     simp(disch:=go_num) only[go_sem,xO,xP,xQ,xR,jpu,qs5,c1,hb]
     exact hK
   .have c1:((q.1:Int)=(r.1:Int)/\(q.2:Int)=(r.2:Int))=False:=eq_false (fun h=>e (by
     obtain⟨a,b⟩:=q
     obtain⟨c,d⟩:=r
     simp only at h;simp;omega))
    have c2:((r.1:Int)=(q.1:Int)/\(r.2:Int)=(q.2:Int))=False:=eq_false (fun h=>e (by
     obtain⟨a,b⟩:=q
     obtain⟨c,d⟩:=r
     simp only at h;simp;omega))
    simp(disch:=go_num) only[go_sem,xO,xP,xQ,xR,jpu,qs5,c1,c2]
    exact hK
theorem qiq {f:Fc} {x:Ms.Ins} {m:Nat×Nat} (k:InsOk m f.values x) {i:Nat} {o:Ms.Opd} (hio:x.ops[i]?=some o) {bF:Nat} {Q:Ex->St->Prop} :
 ∀ (d j:Nat) (_:j+d=i) {hi:Hp} (_:Ok hi) (_:bF<hi.next/\bX<hi.next/\bO<hi.next/\bR<hi.next) (_:hi.get bF=some (.arr (Zk f) 32)) (_:hi.get bX=some (.arr [si x.op,jaf jbc x.ops,jaf jcq x.spoils] 62))
  (_:hi.get bO=some (.arr [si o.kind,si o.value,.bool o.late,si o.limit,si o.n] 80)) (_:hi.get bR=some (.arr (qga (jiq f.values x.ops o)) 83)) {x3 x4 x5 x6 x7 x8 x9 x11:AV}
  (hQ:∀ hj x3 x4 x5 x6 x7 x8 x9 x11,Ok hj->hi.next<=hj.next->(∀ k,k<hi.next->hj.get k=hi.get k)->Q (.exit 2) (.mk [x0,x1,x2,x3,x4,x5,x6,x7,x8,x9,.s (jpw x.ops i),x11,vi i,vi i,vi i,x15,x16,.s (.ptr bR 0),vb (jiq f.values x.ops o).isSome,.s (.ptr bO 0),.s (.ptr bF 0),x21,x22,x23,x24,.s (.ptr bX 0)] hj)),
  W F4 jpr.loop (.mk [x0,x1,x2,x3,x4,x5,x6,x7,x8,x9,.s (jpw x.ops i),x11,vi i,vi j,vi i,x15,x16,.s (.ptr bR 0),vb (jiq f.values x.ops o).isSome,.s (.ptr bO 0),.s (.ptr bF 0),x21,x22,x23,x24,.s (.ptr bX 0)] hi) Q
 | 0,j,hd,hi,ok,hb,xF,xX,xO,xR,x3,x4,x5,x6,x7,x8,x9,x11,hQ=>by
  obtain rfl:j=i:=oa
  rw[jai]
  unfold jpr
  simp(disch:=go_num) only[go_sem,f0s]
  grind
 | d+1,j,hd,hi,ok,hb,xF,xX,xO,xR,x3,x4,x5,x6,x7,x8,x9,x11,hQ=>by
  have hlt:(j:Int)<(i:Int):=oa
  have hil:i<x.ops.length:=by
   rcases f0n i x.ops.length with h7 | h7
   .exact h7
   .rw [f0y h7] at hio;cases hio
  have hno:=k.nops
  obtain⟨p,hget⟩:∃ y,x.ops[j]?=some y:=⟨_,f0b oa⟩
  have hpm:=f0c hget
  have ho:=k.opd o (f0c hio)
  have hp:=k.opd p hpm
  have hcl:=k.cla i j o p oa hio hget
  have hix:=qan (l:=x.ops) (i:=i) (j:=j) oa hget
  have hs:(j:Int)+1=((j+1:Nat):Int):=oa
  obtain⟨hA,eA,okA,nA,xA,gA⟩:=jby ok Za (jbc p) 80
  have yF:=(gA _ hb.1).trans xF
  have yX:=(gA _ hb.2.1).trans xX
  have yO:=(gA _ hb.2.2.1).trans xO
  have yR:=(gA _ hb.2.2.2).trans xR
  obtain⟨hB,eB,okB,nB,xB,gB⟩:=jby okA Zf (qga (jiq f.values x.ops p)) 83
  have zF:=(gB _ oa).trans yF
  have zX:=(gB _ oa).trans yX
  have zO:=(gB _ oa).trans yO
  have zR:=(gB _ oa).trans yR
  have zA:=(gB _ oa).trans xA
  obtain⟨a,b,hab⟩:=j14 (jiq f.values x.ops p)
  have wf:=fun {h:Hp} {Q:AV->Hp->Prop}=>(qal (h:=h) (Q:=Q) (f:=f) (op:=x.op) (vl:=p.value) (lm:=p.limit) (n:=p.n) (kd:=p.kind) (lt:=p.late) (ops:=x.ops) (sp:=x.spoils) (fun e=>by
   obtain⟨u,h1,_⟩:=k.reu p hpm e
   exact⟨u,h1,(k.opd u (f0c h1)).val⟩) hp.val).trans (by rw[qao hab])
  unfold jbc at xA eA zA
  rw[nA] at eB xB
  rw[hab] at eB
  have rest:∀ (x3 x4 x8 x11:AV) (K:Ex->St->Prop),K .normal (.mk [x0,x1,x2,vb false,vb (qf9 i j o p),.s (.ptr (hi.next+1) 0),vb (jiq f.values x.ops p).isSome,vi j,x8,.s (.ptr hi.next 0),.s (jpw x.ops i),x11,vi i,vi j,vi i,x15,x16,.s (.ptr bR 0),vb (jiq f.values x.ops o).isSome,.s (.ptr bO 0),.s (.ptr bF 0),x21,x22,x23,x24,.s (.ptr bX 0)] hB) ->
   W F4 jg2 (.mk [x0,x1,x2,x3,x4,.s (.ptr (hi.next+1) 0),vb (jiq f.values x.ops p).isSome,vi j,x8,.s (.ptr hi.next 0),.s (jpw x.ops i),x11,vi i,vi j,vi i,x15,x16,.s (.ptr bR 0),vb (jiq f.values x.ops o).isSome,.s (.ptr bO 0),.s (.ptr bF 0),x21,x22,x23,x24,.s (.ptr bX 0)] hB) K:=fun x3 x4 x8 x11 K hK=>by
   rw[show jg2=.seq (qno jg2) (qnp jg2) from rfl,j4v]
   refine qnq zO zA ?_
   rw[jfz]
   refine qgb ho.kind hp.kind (fun r h1 h2=>?_) zO zA xB zR hK
   unfold qf9
   rcases hcl.2 r h1 h2 with⟨h3,h4⟩ | ⟨h3,h4⟩
   .simp [h3,h4]
   .simp [h3,h4]
  have fin:∀ (x3 x4 x8:AV),W F4 jpr.loop (.mk [x0,x1,x2,x3,x4,.s (.ptr (hi.next+1) 0),vb (jiq f.values x.ops p).isSome,vi j,x8,.s (.ptr hi.next 0),.s (jpw x.ops i),vb true,vi i,vi (j+1:Nat),vi i,x15,x16,.s (.ptr bR 0),vb (jiq f.values x.ops o).isSome,.s (.ptr bO 0),.s (.ptr bF 0),x21,x22,x23,x24,.s (.ptr bX 0)] hB) Q:=fun x3 x4 x8 =>
   qiq k hio d (j+1) oa okB oa zF zX zO zR (fun hj x3 x4 x5 x6 x7 x8 x9 x11 o n g=>hQ hj x3 x4 x5 x6 x7 x8 x9 x11 o oa (fun k hk=>(g k oa).trans ((gB k oa).trans (gA k hk))))
  rw[jai]
  unfold jpr j9r
  by_cases e1:o.limit=5
  .have c1:((o.limit:Int)=5)=True:=by simp;omega
   by_cases e2:p.limit=5
   .have c2:((p.limit:Int)=5)=True:=by simp;omega
    have c3:((o.n:Int)=(p.n:Int))=False:=by have:=hcl.1 e1 e2;simp;omega
    simp(disch:=go_num) only[go_sem,jad,eq_true hlt,hix,jbc,eA,xA,nA,yF,yX,wf,eB,zO,zA,c1,c2,c3]
    refine rest _ _ _ _ _ ?_
    simp(disch:=go_num) only[go_sem,jad,hs]
    exact fin _ _ _
   .have c2:((p.limit:Int)=5)=False:=by simp;omega
    simp(disch:=go_num) only[go_sem,jad,eq_true hlt,hix,jbc,eA,xA,nA,yF,yX,wf,eB,zO,zA,c1,c2]
    refine rest _ _ _ _ _ ?_
    simp(disch:=go_num) only[go_sem,jad,hs]
    exact fin _ _ _
  .have c1:((o.limit:Int)=5)=False:=by simp;omega
   simp(disch:=go_num) only[go_sem,jad,eq_true hlt,hix,jbc,eA,xA,nA,yF,yX,wf,eB,zO,zA,c1]
   refine rest _ _ _ _ _ ?_
   simp(disch:=go_num) only[go_sem,jad,hs]
   exact fin _ _ _
theorem qap {f:Fc} {x:Ms.Ins} {m:Nat×Nat} (k:InsOk m f.values x) {bF:Nat} {Q:Ex->St->Prop} :
 ∀ (d i:Nat) (_:i+d=x.ops.length) {hi:Hp} (_:Ok hi) (_:bF<hi.next/\bX<hi.next) (_:hi.get bF=some (.arr (Zk f) 32)) (_:hi.get bX=some (.arr [si x.op,jaf jbc x.ops,jaf jcq x.spoils] 62))
  {x3 x4 x5 x6 x7 x8 x9 x10 x11 x12 x13 x14 x15 x16 x17 x18 x19 x22:AV}
  (hQ:∀ hj x3 x4 x5 x6 x7 x8 x9 x10 x11 x12 x13 x14 x15 x16 x17 x18 x19 x22,Q (.exit 0) (.mk [x0,x1,x2,x3,x4,x5,x6,x7,x8,x9,x10,x11,x12,x13,x14,x15,x16,x17,x18,x19,.s (.ptr bF 0),.s (jaf jbc x.ops),x22,vi x.ops.length,vi x.ops.length,.s (.ptr bX 0)] hj)),
  W F4 jps.loop (.mk [x0,x1,x2,x3,x4,x5,x6,x7,x8,x9,x10,x11,x12,x13,x14,x15,x16,x17,x18,x19,.s (.ptr bF 0),.s (jaf jbc x.ops),x22,vi x.ops.length,vi i,.s (.ptr bX 0)] hi) Q
 | 0,i,hd,hi,ok,hb,xF,xX,x3,x4,x5,x6,x7,x8,x9,x10,x11,x12,x13,x14,x15,x16,x17,x18,x19,x22,hQ=>by
  obtain rfl:i=x.ops.length:=oa
  rw[jai]
  unfold jps
  simp(disch:=go_num) only[go_sem,f0s]
  exact hQ hi ..
 | d+1,i,hd,hi,ok,hb,xF,xX,x3,x4,x5,x6,x7,x8,x9,x10,x11,x12,x13,x14,x15,x16,x17,x18,x19,x22,hQ=>by
  have hlt:(i:Int)<(x.ops.length:Int):=oa
  have hil:i<x.ops.length:=oa
  have hno:=k.nops
  have hns:=k.nsp
  obtain⟨o,hio⟩:∃ y,x.ops[i]?=some y:=⟨_,f0b hil⟩
  have hom:=f0c hio
  have ho:=k.opd o hom
  have hsp:=k.sp o hom
  have hix:=jaj (enc:=jbc) (size:=5) hio rfl
  have hs:(i:Int)+1=((i+1:Nat):Int):=oa
  obtain⟨hA,eA,okA,nA,xA,gA⟩:=jby ok Za (jbc o) 80
  have yF:=(gA _ hb.1).trans xF
  have yX:=(gA _ hb.2).trans xX
  obtain⟨hB,eB,okB,nB,xB,gB⟩:=jby okA Zf (qga (jiq f.values x.ops o)) 83
  have zF:=(gB _ oa).trans yF
  have zX:=(gB _ oa).trans yX
  have zA:=(gB _ oa).trans xA
  obtain⟨a,b,hab⟩:=j14 (jiq f.values x.ops o)
  have wf:=fun {h:Hp} {Q:AV->Hp->Prop}=>(qal (h:=h) (Q:=Q) (f:=f) (op:=x.op) (vl:=o.value) (lm:=o.limit) (n:=o.n) (kd:=o.kind) (lt:=o.late) (ops:=x.ops) (sp:=x.spoils) (fun e=>by
   obtain⟨u,h1,_⟩:=k.reu o hom e
   exact⟨u,h1,(k.opd u (f0c h1)).val⟩) ho.val).trans (by rw[qao hab])
  have xB':=xB
  have nil:(jiq f.values x.ops o).isSome=false∨((jiq f.values x.ops o).isSome=true/\(a,b)∉x.spoils):=by
   cases e:jiq f.values x.ops o with
   | none=>exact .inl rfl
   | some r =>
    right
    refine⟨rfl,?_⟩
    rw[e] at hab
    unfold qga at hab
    simp only[List.cons.injEq,and_true] at hab
    have h1:r=(a,b):=by
     obtain⟨c,d⟩:=r
     have h1:=(SV.int.inj hab.1).2
     have h2:=(SV.int.inj hab.2).2
     simp only at h1 h2;simp;omega
    rw[←h1];exact hsp r e
  have sl:=qf8 hil
  have ls:=qam hil
  unfold jbc at xA eA zA
  rw[nA] at eB xB
  rw[hab] at eB
  have xB2:=xB
  rw[hab] at xB2
  have fin:∀ (x3 x4 x5 x6 x7 x8 x9 x11 x12 x13:AV) (hj:Hp),Ok hj->hB.next<=hj.next->(∀ k,k<hB.next->hj.get k=hB.get k)->∀ (x14 x15 x16 x17 x18 x19:AV),W F4 jps.loop (.mk [x0,x1,x2,x3,x4,x5,x6,x7,x8,x9,.s (jpw x.ops i),x11,x12,x13,x14,x15,x16,x17,x18,x19,.s (.ptr bF 0),.s (jaf jbc x.ops),vb true,vi x.ops.length,vi (i+1:Nat),.s (.ptr bX 0)] hj) Q:=fun x3 x4 x5 x6 x7 x8 x9 x11 x12 x13 hj o n g x14 x15 x16 x17 x18 x19 =>
   qap k d (i+1) oa o ⟨oa,oa⟩ ((g _ oa).trans zF) ((g _ oa).trans zX) hQ
  have tail:∀ (x3 x4 x5 x6 x7 x8 x9 x10 x11 x12 x13 x15 x16:AV) (K:Ex->St->Prop),(∀ hj x3 x4 x5 x6 x7 x8 x9 x11,Ok hj->hB.next<=hj.next->(∀ k,k<hB.next->hj.get k=hB.get k)->K .normal (.mk [x0,x1,x2,x3,x4,x5,x6,x7,x8,x9,.s (jpw x.ops i),x11,vi i,vi i,vi i,x15,x16,.s (.ptr (hi.next+1) 0),vb (jiq f.values x.ops o).isSome,.s (.ptr hi.next 0),.s (.ptr bF 0),.s (jaf jbc x.ops),vb true,vi x.ops.length,vi i,.s (.ptr bX 0)] hj)) ->
   W F4 jzf (.mk [x0,x1,x2,x3,x4,x5,x6,x7,x8,x9,x10,x11,x12,x13,vi i,x15,x16,.s (.ptr (hi.next+1) 0),vb (jiq f.values x.ops o).isSome,.s (.ptr hi.next 0),.s (.ptr bF 0),.s (jaf jbc x.ops),vb true,vi x.ops.length,vi i,.s (.ptr bX 0)] hB) K:=fun x3 x4 x5 x6 x7 x8 x9 x10 x11 x12 x13 x15 x16 K hK=>by
   unfold jzf
   simp(disch:=go_num) only[go_sem,zX,jhx,sl,ls]
   refine qiq k hio i 0 oa okB ⟨oa,oa,oa,oa⟩ zF zX zA xB (fun hj x3 x4 x5 x6 x7 x8 x9 x11 o n g=>?_)
   simp(disch:=go_num) only[go_sem]
   exact hK hj x3 x4 x5 x6 x7 x8 x9 x11 o n g
  generalize (jiq f.values x.ops o).isSome=has at *
  have kk:((o.kind:Int)=2)=False∨((o.kind:Int)=2)=True:=by
   rcases ho.kind with h | h
   .left;simp;omega
   .right;simp;omega
  rw[jai]
  unfold jps j9t j9s
  rcases nil with hn | ⟨hn,hm⟩
  .subst hn
   simp(disch:=go_num) only[go_sem,jad,eq_true hlt,hix,jbc,eA,xA,nA,yF,yX,wf,eB,zA]
   refine tail _ _ _ _ _ _ _ _ _ _ _ _ _ _ (fun hj x3 x4 x5 x6 x7 x8 x9 x11 o n g=>?_)
   simp(disch:=go_num) only[go_sem,jad,hs]
   exact fin _ _ _ _ _ _ _ _ _ _ hj o n g _ _ _ _ _ _
  .subst hn
   have wc:=fun {h:Hp} {Q:AV->Hp->Prop}=>qnn (h:=h) (Q:=Q) (l:=x.spoils) (a:=a) (b:=b) hm oa
   cases hlate:o.late with
   | true =>
    rw[hlate] at xA eA zA wf
    rcases kk with c1 | c1
    .simp (disch:=go_num) only[go_sem,jad,eq_true hlt,hix,jbc,hlate,eA,xA,nA,yF,yX,wf,eB,zA,zX,xB2,wc,c1]
     refine tail _ _ _ _ _ _ _ _ _ _ _ _ _ _ (fun hj x3 x4 x5 x6 x7 x8 x9 x11 o n g=>?_)
     simp(disch:=go_num) only[go_sem,jad,hs]
     exact fin _ _ _ _ _ _ _ _ _ _ hj o n g _ _ _ _ _ _
    .simp (disch:=go_num) only[go_sem,jad,eq_true hlt,hix,jbc,hlate,eA,xA,nA,yF,yX,wf,eB,zA,zX,xB2,wc,c1]
     refine tail _ _ _ _ _ _ _ _ _ _ _ _ _ _ (fun hj x3 x4 x5 x6 x7 x8 x9 x11 o n g=>?_)
     simp(disch:=go_num) only[go_sem,jad,hs]
     exact fin _ _ _ _ _ _ _ _ _ _ hj o n g _ _ _ _ _ _
   | false =>
    rw[hlate] at xA eA zA wf
    rcases kk with c1 | c1
    .simp (disch:=go_num) only[go_sem,jad,eq_true hlt,hix,jbc,hlate,eA,xA,nA,yF,yX,wf,eB,zA,zX,xB2,wc,c1]
     refine tail _ _ _ _ _ _ _ _ _ _ _ _ _ _ (fun hj x3 x4 x5 x6 x7 x8 x9 x11 o n g=>?_)
     simp(disch:=go_num) only[go_sem,jad,hs]
     exact fin _ _ _ _ _ _ _ _ _ _ hj o n g _ _ _ _ _ _
    .simp (disch:=go_num) only[go_sem,jad,eq_true hlt,hix,jbc,hlate,eA,xA,nA,yF,yX,wf,eB,zA,zX,xB2,wc,c1]
     refine tail _ _ _ _ _ _ _ _ _ _ _ _ _ _ (fun hj x3 x4 x5 x6 x7 x8 x9 x11 o n g=>?_)
     simp(disch:=go_num) only[go_sem,jad,hs]
     exact fin _ _ _ _ _ _ _ _ _ _ hj o n g _ _ _ _ _ _
theorem qnr {h:Hp} (ok:Ok h) {f:Fc} {x:Ms.Ins} {m:Nat×Nat} (k:InsOk m f.values x):WC F4 85 [.agg (Zk f),.agg [si x.op,jaf jbc x.ops,jaf jcq x.spoils]] h (fun v h'=>∃ d,jf9 true h' d v=some (vb false)):=by
 refine jaz (no4 rfl rfl rfl rfl) qzy rfl ?_
 unfold qie
 obtain⟨hA,eA,okA,nA,xA,gA⟩:=jdw ok (Zk f) 32
 obtain⟨hB,eB,okB,nB,xB,gB⟩:=jdw okA [si x.op,jaf jbc x.ops,jaf jcq x.spoils] 62
 have yA:=(gB _ oa).trans xA
 rw[nA] at xB
 have l1:=jah (enc:=jbc) (l:=x.ops)
 simp(disch:=go_num) only[go_sem,eA,eB,nA,xB,l1]
 refine qap k x.ops.length 0 oa okB ⟨oa,oa⟩ yA xB (fun hj x3 x4 x5 x6 x7 x8 x9 x10 x11 x12 x13 x14 x15 x16 x17 x18 x19 x22=>?_)
 simp(disch:=go_num) only[go_sem]
 exact⟨1,rfl⟩
def S5 (f:FuncId):Bool:=Nat.beq f 82||(Nat.beq f 60||Nat.beq f 85)
def F5:Fns:=PX S5 F4
theorem q40 {A:Nat->Int}:Env Tryz.prog A tys F5:=jer q4z
theorem no5 {f:FuncId} (h1:S1 f=false) (h2:Nat.beq f jgm.f=false) (h3:S3 f=false) (h4:S4 f=false) (h5:S5 f=false) {h:Hp}:jc1 F5 f vs h=none:=(ja0 h5).trans (no4 h1 h2 h3 h4)
section
variable {h:Hp} {f:Fc} {m:Nat×Nat} {Q:AV->Hp->Prop}
theorem qns {kd vl lm n:Nat} {lt:Bool} (hc:∀ v,cl f.values v<2) (k:OpdOk m f.values ⟨kd,vl,lt,lm,n⟩):WC F5 82 [.agg (Zk f),.agg [si m.1,si m.2],.agg [si kd,si vl,.bool lt,si lm,si n]] h Q=Q (vi 0) h :=
 jam (jbg rfl (by simp only[jaw,ja5,jbi,jdu,ja7,jbj,jbd,jbt,jbu,jbl,if_true]) (qnl jdv hc k))
theorem qnt {op kd vl lm n:Nat} {lt:Bool} {ops:List Ms.Opd} {sp:List (Nat×Nat)} {u:Ms.Opd} (h1:ops[n]?=some u) (h2:u.kind=1) (h3:u.late=false) (h4:cl f.values u.value=cl f.values vl) (h5:u.value<f.values.length) (h6:vl<f.values.length) :
 WC F5 83 [.agg (Zk f),.agg [si op,jaf jbc ops,jaf jcq sp],.agg [si kd,si vl,.bool lt,si lm,si n]] h Q=Q (vi 0) h :=
 jam ((ja0 rfl).trans (jbg rfl (by simp only[jaw,ja5,jbi,jdu,ja7,jbj,jbd,jbt,jbu,jbl,if_true]) (qng (x:=⟨op,ops,sp⟩) (o:=⟨kd,vl,lt,lm,n⟩) jdv h1 h2 h3 h4 h5 h6)))
theorem qnu {l:List (Nat×Nat)} (hl:l.length<=10000) (hr:∀ r∈l,r.1<2/\r.2<g2 m r.1) (hord:∀ (i:Nat) (q r:Nat×Nat),l[i]?=some q->l[i+1]?=some r->q.1<r.1∨(q.1=r.1/\q.2<r.2)) :
 WC F5 84 [.agg [si m.1,si m.2],.s (jaf jcq l)] h Q=Q (vi 0) h :=
 jam ((ja0 rfl).trans (jbg rfl (by simp only[jaw,ja5,jbi,jdu,ja7,jbj,jbd,jbt,jbu,jbl,if_true]) (qnh jdv hl hr hord)))
theorem qnv {op:Nat} {ops:List Ms.Opd} {sp:List (Nat×Nat)} (k:InsOk m f.values ⟨op,ops,sp⟩):WC F5 85 [.agg (Zk f),.agg [si op,jaf jbc ops,jaf jcq sp]] h Q=Q (vb false) h :=
 jam (jbg rfl (by simp only[jaw,ja5,jbi,jdu,ja7,jbj,jbd,jbt,jbu,jbl,if_true]) (qnr jdv k))
theorem qir {op c:Nat} {ops:List Ms.Opd} {sp:List (Nat×Nat)} (hc:c<2) (k:InsOk m f.values ⟨op,ops,sp⟩):WC F5 86 [.agg (Zk f),.agg [si m.1,si m.2],.agg [si op,jaf jbc ops,jaf jcq sp],vi c] h Q=Q (vb true) h :=
 jam ((ja0 rfl).trans (jbg rfl (by simp only[jaw,ja5,jbi,jdu,ja7,jbj,jbd,jbt,jbu,jbl,if_true]) (qs9 jdv hc k)))
end
theorem qis {f:Fc} {m:Nat×Nat} {l:List Ms.Opd} (hl:l.length<=10000) (hc:∀ v,cl f.values v<2) (hp:∀ o∈l,OpdOk m f.values o) {bF bM:Nat} {Q:Ex->St->Prop} :
 ∀ (d i:Nat) (_:i+d=l.length) {hi:Hp} (_:Ok hi) (_:bF<hi.next/\bM<hi.next) (_:hi.get bF=some (.arr (Zk f) 32)) (_:hi.get bM=some (.arr [si m.1,si m.2] 28)) {x19 x20 x21 x25:AV}
  (hQ:∀ hj x19 x20 x21 x25,Ok hj->hi.next<=hj.next->(∀ k,k<hi.next->hj.get k=hi.get k)->Q (.exit 0) (.mk [x0,x1,x2,x3,x4,x5,x6,x7,x8,x9,x10,x11,x12,x13,x14,x15,x16,x17,x18,x19,x20,x21,.s (.ptr bM 0),.s (.ptr bF 0),.s (jaf jbc l),x25,vi l.length,vi l.length,x28,.s (.ptr bX 0)] hj)),
  W F5 jte.loop (.mk [x0,x1,x2,x3,x4,x5,x6,x7,x8,x9,x10,x11,x12,x13,x14,x15,x16,x17,x18,x19,x20,x21,.s (.ptr bM 0),.s (.ptr bF 0),.s (jaf jbc l),x25,vi l.length,vi i,x28,.s (.ptr bX 0)] hi) Q
 | 0,i,hd,hi,ok,hb,xF,xM,x19,x20,x21,x25,hQ=>by
  obtain rfl:i=l.length:=oa
  rw[jai]
  unfold jte
  simp(disch:=go_num) only[go_sem,f0s]
  exact hQ hi _ _ _ _ ok (f0h _) (fun _ _=>rfl)
 | d+1,i,hd,hi,ok,hb,xF,xM,x19,x20,x21,x25,hQ=>by
  have hlt:(i:Int)<(l.length:Int):=oa
  obtain⟨o,hio⟩:∃ y,l[i]?=some y:=⟨_,f0b oa⟩
  have ho:=hp o (f0c hio)
  have hix:=jaj (enc:=jbc) (size:=5) hio rfl
  have hs:(i:Int)+1=((i+1:Nat):Int):=oa
  obtain⟨hA,eA,okA,nA,xA,gA⟩:=jby ok Za (jbc o) 80
  have yF:=(gA _ hb.1).trans xF
  have yM:=(gA _ hb.2).trans xM
  unfold jbc at xA eA
  rw[jai]
  unfold jte j9u
  simp(disch:=go_num) only[go_sem,jad,eq_true hlt,hix,jbc,eA,xA,yF,yM,qns hc ho,hs]
  exact qis hl hc hp d (i+1) oa okA ⟨oa,oa⟩ yF yM (fun hj x19 x20 x21 x25 o n g=>hQ hj x19 x20 x21 x25 o oa (fun k hk=>(g k oa).trans (gA k hk)))
theorem qit {f:Fc} {m:Nat×Nat} {x:Ms.Ins} (k:InsOk m f.values x) {bF:Nat} {Q:Ex->St->Prop} :
 ∀ (d i:Nat) (_:i+d=x.ops.length) {hi:Hp} (_:Ok hi) (_:bF<hi.next/\bX<hi.next) (_:hi.get bF=some (.arr (Zk f) 32)) (_:hi.get bX=some (.arr [si x.op,jaf jbc x.ops,jaf jcq x.spoils] 62)) {x11 x12 x13 x14 x16:AV}
  (hQ:∀ hj x11 x12 x13 x14 x16,Ok hj->hi.next<=hj.next->(∀ k,k<hi.next->hj.get k=hi.get k)->Q (.exit 2) (.mk [x0,x1,x2,x3,x4,x5,x6,x7,x8,x9,x10,x11,x12,x13,x14,.s (jaf jbc x.ops),x16,vi x.ops.length,vi x.ops.length,x19,x20,x21,x22,.s (.ptr bF 0),x24,x25,x26,x27,x28,.s (.ptr bX 0)] hj)),
  W F5 jpt.loop (.mk [x0,x1,x2,x3,x4,x5,x6,x7,x8,x9,x10,x11,x12,x13,x14,.s (jaf jbc x.ops),x16,vi x.ops.length,vi i,x19,x20,x21,x22,.s (.ptr bF 0),x24,x25,x26,x27,x28,.s (.ptr bX 0)] hi) Q
 | 0,i,hd,hi,ok,hb,xF,xX,x11,x12,x13,x14,x16,hQ=>by
  obtain rfl:i=x.ops.length:=oa
  rw[jai]
  unfold jpt
  simp(disch:=go_num) only[go_sem,f0s]
  exact hQ hi _ _ _ _ _ ok (f0h _) (fun _ _=>rfl)
 | d+1,i,hd,hi,ok,hb,xF,xX,x11,x12,x13,x14,x16,hQ=>by
  have hlt:(i:Int)<(x.ops.length:Int):=oa
  have hno:=k.nops
  obtain⟨o,hio⟩:∃ y,x.ops[i]?=some y:=⟨_,f0b oa⟩
  have hom:=f0c hio
  have ho:=k.opd o hom
  have hix:=jaj (enc:=jbc) (size:=5) hio rfl
  have hs:(i:Int)+1=((i+1:Nat):Int):=oa
  obtain⟨hA,eA,okA,nA,xA,gA⟩:=jby ok Za (jbc o) 80
  have yF:=(gA _ hb.1).trans xF
  have yX:=(gA _ hb.2).trans xX
  have fin:∀ (x11 x12 x13 x14:AV),W F5 jpt.loop (.mk [x0,x1,x2,x3,x4,x5,x6,x7,x8,x9,x10,x11,x12,x13,x14,.s (jaf jbc x.ops),vb true,vi x.ops.length,vi (i+1:Nat),x19,x20,x21,x22,.s (.ptr bF 0),x24,x25,x26,x27,x28,.s (.ptr bX 0)] hA) Q:=fun x11 x12 x13 x14 =>
   qit k d (i+1) oa okA ⟨oa,oa⟩ yF yX (fun hj x11 x12 x13 x14 x16 o n g=>hQ hj x11 x12 x13 x14 x16 o oa (fun k hk=>(g k oa).trans (gA k hk)))
  unfold jbc at xA eA
  rw[jai]
  unfold jpt j9w
  by_cases e:o.limit=5
  .have c1:((o.limit:Int)≠5)=False:=by simp;omega
   obtain⟨u,h1,h2,h3,h4⟩:=k.reu o hom e
   have h5:=(k.opd u (f0c h1)).val
   simp(disch:=go_num) only[go_sem,jad,eq_true hlt,hix,jbc,eA,xA,c1]
   unfold j9v
   simp(disch:=go_num) only[go_sem,jad,xA,yF,yX,qnt h1 h2 h3 h4 h5 ho.val,hs]
   exact fin _ _ _ _
  .have c1:((o.limit:Int)≠5)=True:=by simp;omega
   simp(disch:=go_num) only[go_sem,jad,eq_true hlt,hix,jbc,eA,xA,c1,hs]
   exact fin _ _ _ _
theorem qnw {h:Hp} (ok:Ok h) {f:Fc} {m:Nat×Nat} {x:Ms.Ins} (hc:∀ v,cl f.values v<2) (k:InsOk m f.values x):WC F5 59 [.agg (Zk f),.agg [si m.1,si m.2],.agg [si x.op,jaf jbc x.ops,jaf jcq x.spoils]] h (fun v h'=>∃ d,jf9 true h' d v=some (vi 0)):=by
 refine jaz (no5 rfl rfl rfl rfl rfl) qzz rfl ?_
 unfold qih
 have hno:=k.nops
 have hns:=k.nsp
 have hop:=k.op
 obtain⟨hA,eA,okA,nA,xA,gA⟩:=jdw ok (Zk f) 32
 obtain⟨hB,eB,okB,nB,xB,gB⟩:=jdw okA [si m.1,si m.2] 28
 obtain⟨hC,eC,okC,nC,xC,gC⟩:=jdw okB [si x.op,jaf jbc x.ops,jaf jcq x.spoils] 62
 have yA:=(gC _ oa).trans ((gB _ oa).trans xA)
 have yB:=(gC _ oa).trans xB
 have nb:hB.next=h.next+2:=oa
 rw[nA] at yB
 rw[nb] at xC
 have c1:((x.op:Int)<0)=False:=se
 have c2:(255<(x.op:Int))=False:=by simp;omega
 have l1:=jah (enc:=jbc) (l:=x.ops)
 have k0:InsOk m f.values ⟨x.op,x.ops,x.spoils⟩:=k
 simp(disch:=go_num) only[go_sem,eA,eB,eC,nA,nb,xC,c1,c2]
 unfold j91
 simp(disch:=go_num) only[go_sem,xC,l1]
 refine qis oa hc k.opd x.ops.length 0 oa okC ⟨oa,oa⟩ yA yB (fun hj x19 x20 x21 x25 o n g=>?_)
 have zA:=(g _ oa).trans yA
 have zB:=(g _ oa).trans yB
 have zC:=(g _ oa).trans xC
 simp(disch:=go_num) only[go_sem,zC,l1]
 refine qit k x.ops.length 0 oa o ⟨oa,oa⟩ zA zC (fun hj x11 x12 x13 x14 x16 o n g=>?_)
 have vA:=(g _ oa).trans zA
 have vB:=(g _ oa).trans zB
 have vC:=(g _ oa).trans zC
 simp(disch:=go_num) only[go_sem,vB,vC,qnu (m:=m) (l:=x.spoils) oa k.spo k.ord]
 unfold j90
 simp(disch:=go_num) only[go_sem,vA,vC,qnv k0]
 unfold j9z
 simp(disch:=go_num) only[go_sem]
 rw[jai]
 unfold j9y j9x
 have w0:=fun {h:Hp} {Q:AV->Hp->Prop}=>qir (h:=h) (Q:=Q) (c:=0) oa k0
 have w1:=fun {h:Hp} {Q:AV->Hp->Prop}=>qir (h:=h) (Q:=Q) (c:=1) oa k0
 simp only[Int.natCast_zero,Int.natCast_one] at w0 w1
 simp(disch:=go_num) only[go_sem,jad,vA,vB,vC,w0]
 rw[jai]
 simp(disch:=go_num) only[go_sem,jad,vA,vB,vC,w1]
 rw[jai]
 simp(disch:=go_num) only[go_sem]
 exact⟨1,rfl⟩
theorem qiu (x:SV):∀ n,rep [x] n=List.replicate n x
 | 0=>rfl
 | n+1=>by
  have h:rep [x] (n+1)=jf8 [x] (rep [x] n):=rfl
  rw[h,jcv,qiu x n];rfl
theorem jpx {α:Type} {c:α}:∀ {l:List α} {i:Nat},i<l.length->jbo i [c] l=some (l.set i c)
 | [],i,h=>by simp at h
 | a::l,0,h=>by
  cases l<;>rfl
 | a::l,i+1,h=>by
  rw[jf0,jpx (by simpa using h)];rfl
def bls (s:List Bool):List SV:=s.map SV.bool
theorem qnx {h:Hp} {f:Fc} {Q:AV->Hp->Prop} (hv:v<f.values.length):WC F5 87 [.agg (Zk f),vi v] h Q=Q (vb true) h:=jam ((ja0 rfl).trans (qip hv))
theorem qny {hi:Hp} (ok:Ok hi) {f:Fc} {bF bM bA:Nat} {s:List Bool} (hv:v<f.values.length) (hs:s.length=f.values.length) (hp:1<=bA) (xF:hi.get bF=some (.arr (Zk f) 32)) (xM:hi.get bM=some (.arr [.slice bA 0 f.values.length f.values.length true 1] 130)) (xA:hi.get bA=some (.arr (bls s) 4)) :
 WC F5 88 [vi v,.s (.ptr bF 0),.s (.ptr bM 0)] hi (fun u h'=>(s[v]?=some true->u=vi 7/\h'=hi)/\(s[v]?=some false->u=vi 0/\Ok h'/\h'.next=hi.next/\h'.get bA=some (.arr (bls (s.set v true)) 4)/\∀ k,k≠bA->h'.get k=hi.get k)):=by
 refine jaz (no5 rfl rfl rfl rfl rfl) qz1 rfl ?_
 unfold qij
 have hvs:v<s.length:=oa
 obtain⟨b,hb⟩:∃ b,s[v]?=some b:=⟨_,f0b hvs⟩
 have hcell:(bls s)[v]?=some (.bool b):=by unfold bls;rw[f09,hb];rfl
 have hrd:rdB (hi.get bA) v 1=some [.bool b]:=by rw[xA];exact jwq hcell
 have hix:=jct (size:=1) (b:=bA) (off:=0) (len:=f.values.length) (mc:=f.values.length) (sz:=1) (ex:=true) (m:=v) hv
 rw[f1b,f12] at hix
 simp(disch:=go_num) only[go_sem,xF,qnx hv]
 unfold qaa
 cases b with
 | true =>
  simp(disch:=go_num) only[go_sem,xM,hix,hrd,hb]
  exact⟨fun _=>trivial,fun h=>by cases h⟩
 | false =>
  have hset:wrB hi bA (hi.get bA) v [.bool true]=some (hi.put bA (some (.arr (bls (s.set v true)) 4))):=by
   rw[xA,jsq,jpx (by unfold bls;rw[f03];exact hvs)]
   show some (hi.put bA (some (.arr ((bls s).set v (.bool true)) 4)))=_
   unfold bls
   rw[List.map_set]
  simp(disch:=go_num) only[go_sem,xM,hix,hrd]
  unfold j99
  simp(disch:=go_num) only[go_sem,xM,hix,hset]
  exact⟨fun h=>(by rw[hb] at h;cases h),fun _=>⟨jas ok,fun k hk=>by rw[if_neg hk]⟩⟩
def jk8:List Bool->List Nat->Option (List Bool)
 | s,[]=>some s
 | s,v::l=>if s[v]?=some true then none else jk8 (s.set v true) l
theorem jtn:∀ (a b:List Nat) (s:List Bool),jk8 s (a++b)=(jk8 s a).bind (fun t=>jk8 t b)
 | [],b,s=>rfl
 | v::a,b,s=>by
  show(if s[v]?=some true then none else jk8 (s.set v true) (a++b))=(if s[v]?=some true then none else jk8 (s.set v true) a).bind _
  split
  .rfl
  .exact jtn a b _
structure OnI (hi:Hp) (f:Fc) (bF bM bA:Nat) (s:List Bool):Prop where
 ok:Ok hi
 hs:s.length=f.values.length
 lt:bF<hi.next/\bM<hi.next/\bA<hi.next
 pos:1<=bA/\bF≠bA/\bM≠bA
 xF:hi.get bF=some (.arr (Zk f) 32)
 xM:hi.get bM=some (.arr [.slice bA 0 f.values.length f.values.length true 1] 130)
 xA:hi.get bA=some (.arr (bls s) 4)
section
variable {hi hj:Hp} {f:Fc} {bF bM bA:Nat} {s:List Bool}
theorem OnI.keep (k:OnI hi f bF bM bA s) (ok:Ok hj) (hn:hi.next<=hj.next) (g:∀ n,n<hi.next->hj.get n=hi.get n):OnI hj f bF bM bA s :=
 ⟨ok,k.hs,⟨f0o k.lt.1 hn,f0o k.lt.2.1 hn,f0o k.lt.2.2 hn⟩,k.pos,(g _ k.lt.1).trans k.xF,(g _ k.lt.2.1).trans k.xM,(g _ k.lt.2.2).trans k.xA⟩
theorem OnI.tell (k:OnI hi f bF bM bA s) (hv:v<f.values.length):WC F5 88 [vi v,.s (.ptr bF 0),.s (.ptr bM 0)] hi (fun u h'=>(s[v]?=some true/\u=vi 7)∨(s[v]?≠some true/\u=vi 0/\OnI h' f bF bM bA (s.set v true)/\h'.next=hi.next/\∀ n,n≠bA->h'.get n=hi.get n)) :=
 WC.imp (qny k.ok hv k.hs k.pos.1 k.xF k.xM k.xA) (fun u h' ⟨h1,h2⟩=>by
  obtain⟨b,hb⟩:∃ b,s[v]?=some b:=⟨_,f0b (by rw[k.hs];exact hv)⟩
  cases b with
  | true=>exact .inl ⟨hb,(h1 hb).1⟩
  | false =>
   obtain⟨e,o,n,g,kp⟩:=h2 hb
   exact .inr ⟨by rw[hb];simp,e,⟨o,by rw[f28];exact k.hs,by rw[n];exact k.lt,k.pos,(kp _ k.pos.2.1).trans k.xF,(kp _ k.pos.2.2).trans k.xM,g⟩,n,kp⟩)
end
def clo (bF bM:Nat):AV:=.s (.func 88 [(bF,0),(bM,0)])
theorem qiv {f:Fc} {bF bM bA:Nat} (hl:ps.length<=10000) (hp:∀ v∈ps,v<f.values.length) {Q:Ex->St->Prop} :
 ∀ (rest done:List Nat) (_:done++rest=ps) {s:List Bool} {hi:Hp} (_:OnI hi f bF bM bA s) {x16 x17 x18 x21:AV}
  (hQ:∀ t,jk8 s rest=some t->∀ hj x16 x17 x18 x21,OnI hj f bF bM bA t->hi.next<=hj.next->(∀ n,n<hi.next->n≠bA->hj.get n=hi.get n)->Q (.exit 2) (.mk [x0,x1,x2,x3,x4,x5,x6,x7,x8,x9,x10,x11,x12,x13,x14,x15,x16,x17,x18,clo bF bM,.s (jaf jav ps),x21,vi ps.length,vi ps.length,x24,x25,x26,x27,x28,.s (.ptr bM 0),.s (.ptr bF 0)] hj))
  (hN:jk8 s rest=none->∀ hj x2 x3 x4 x5 x6 x7 x8 x9 x10 x11 x12 x13 x14 x15 x16 x17 x18 x19 x20 x21 x22 x23 x24 x25 x26 x27 x28 x29 x30,Q .ret (.mk [x0,vi 7,x2,x3,x4,x5,x6,x7,x8,x9,x10,x11,x12,x13,x14,x15,x16,x17,x18,x19,x20,x21,x22,x23,x24,x25,x26,x27,x28,x29,x30] hj)),
  W F5 jtf.loop (.mk [x0,x1,x2,x3,x4,x5,x6,x7,x8,x9,x10,x11,x12,x13,x14,x15,x16,x17,x18,clo bF bM,.s (jaf jav ps),x21,vi ps.length,vi done.length,x24,x25,x26,x27,x28,.s (.ptr bM 0),.s (.ptr bF 0)] hi) Q
 | [],done,hdn,s,hi,I,x16,x17,x18,x21,hQ,hN=>by
  rw[f06] at hdn
  subst hdn
  rw[jai]
  unfold jtf
  simp(disch:=go_num) only[go_sem,f0s]
  exact hQ s rfl hi _ _ _ _ I (f0h _) (fun _ _ _=>rfl)
 | v::rest,done,hdn,s,hi,I,x16,x17,x18,x21,hQ,hN=>by
  have hlt1:done.length<ps.length:=by rw[←hdn];simp
  have hlt:(done.length:Int)<ps.length:=oa
  have hget:ps[done.length]?=some v:=by rw[←hdn];simp
  have hv:=hp v (f0c hget)
  have hix:=jaj (enc:=jav) (size:=1) hget rfl
  have hdn':(done++[v])++rest=ps:=by rw[←hdn];simp
  have hs:(done.length:Int)+1=(((done++[v]).length:Nat):Int):=se
  rw[jai]
  unfold jtf j93 clo
  simp(disch:=go_num) only[go_sem,jad,eq_true hlt,hix,jav]
  rw[j0s rfl]
  simp(disch:=go_num) only[go_sem]
  refine WC.imp (I.tell hv) ?_
  rintro u h' (⟨h1,rfl⟩ | ⟨h1,rfl,I',n',k'⟩)
  .simp (disch:=go_num) only[go_sem]
   exact hN (by unfold jk8;rw[if_pos h1]) ..
  .simp (disch:=go_num) only[go_sem,jad,hs]
   exact qiv hl hp rest (done++[v]) hdn' I' (fun t ht hj x16 x17 x18 x21 J n g=>hQ t (by unfold jk8;rw[if_neg h1];exact ht) hj x16 x17 x18 x21 J oa (fun m hm hne=>(g m oa hne).trans (k' m hne))) (fun ht=>hN (by unfold jk8;rw[if_neg h1];exact ht))
def dfO (l:List Ms.Opd):List Nat:=(l.filter (fun o=>o.kind=2)).map (·.value)
theorem jjh {a b:List Nat} {s t:List Bool} (h:jk8 s a=some t):jk8 s (a++b)=jk8 t b:=by rw[jtn,h];rfl
theorem jzh {a b:List Nat} {s:List Bool} (h:jk8 s a=none):jk8 s (a++b)=none:=by rw[jtn,h];rfl
theorem qaq {f:Fc} {l:List Ms.Opd} {bF bM bA:Nat} (hl:l.length<=10000) (hp:∀ o∈l,o.value<f.values.length) {Q:Ex->St->Prop} :
 ∀ (rest done:List Ms.Opd) (_:done++rest=l) {s:List Bool} {hi:Hp} (_:OnI hi f bF bM bA s) {x3 x4 x5 x6 x8:AV}
  (hQ:∀ t,jk8 s (dfO rest)=some t->∀ hj x3 x4 x5 x6 x8,OnI hj f bF bM bA t->hi.next<=hj.next->(∀ n,n<hi.next->n≠bA->hj.get n=hi.get n)->Q (.exit 6) (.mk [x0,x1,x2,x3,x4,x5,x6,.s (jaf jbc l),x8,vi l.length,vi l.length,x11,x12,x13,x14,x15,x16,x17,x18,clo bF bM,x20,x21,x22,x23,x24,x25,x26,x27,x28,.s (.ptr bM 0),.s (.ptr bF 0)] hj))
  (hN:jk8 s (dfO rest)=none->∀ hj x2 x3 x4 x5 x6 x7 x8 x9 x10 x11 x12 x13 x14 x15 x16 x17 x18 x19 x20 x21 x22 x23 x24 x25 x26 x27 x28 x29 x30,Q .ret (.mk [x0,vi 7,x2,x3,x4,x5,x6,x7,x8,x9,x10,x11,x12,x13,x14,x15,x16,x17,x18,x19,x20,x21,x22,x23,x24,x25,x26,x27,x28,x29,x30] hj)),
  W F5 jtg.loop (.mk [x0,x1,x2,x3,x4,x5,x6,.s (jaf jbc l),x8,vi l.length,vi done.length,x11,x12,x13,x14,x15,x16,x17,x18,clo bF bM,x20,x21,x22,x23,x24,x25,x26,x27,x28,.s (.ptr bM 0),.s (.ptr bF 0)] hi) Q
 | [],done,hdn,s,hi,I,x3,x4,x5,x6,x8,hQ,hN=>by
  rw[f06] at hdn
  subst hdn
  rw[jai]
  unfold jtg
  simp(disch:=go_num) only[go_sem,f0s]
  exact hQ s rfl hi _ _ _ _ _ I (f0h _) (fun _ _ _=>rfl)
 | o::rest,done,hdn,s,hi,I,x3,x4,x5,x6,x8,hQ,hN=>by
  have hlt1:done.length<l.length:=by rw[←hdn];simp
  have hlt:(done.length:Int)<l.length:=oa
  have hget:l[done.length]?=some o:=by rw[←hdn];simp
  have hv:=hp o (f0c hget)
  have hix:=jaj (enc:=jbc) (size:=5) hget rfl
  have hdn':(done++[o])++rest=l:=by rw[←hdn];simp
  have hs:(done.length:Int)+1=(((done++[o]).length:Nat):Int):=se
  have ok:=I.ok
  obtain⟨hA,eA,okA,nA,xA,gA⟩:=jby ok Za (jbc o) 80
  have IA:=I.keep okA oa gA
  unfold jbc at xA eA
  rw[jai]
  unfold jtg j95 clo
  by_cases e:o.kind=2
  .have c1:((o.kind:Int)≠2)=False:=by simp;omega
   have ed:dfO (o::rest)=o.value::dfO rest:=by unfold dfO;rw[List.filter_cons_of_pos (by simpa using e)];rfl
   simp(disch:=go_num) only[go_sem,jad,eq_true hlt,hix,jbc,eA,xA,c1]
   unfold j94
   simp(disch:=go_num) only[go_sem,xA]
   rw[j0s rfl]
   simp(disch:=go_num) only[go_sem]
   refine WC.imp (IA.tell hv) ?_
   rintro u h' (⟨h1,rfl⟩ | ⟨h1,rfl,I',n',k'⟩)
   .simp (disch:=go_num) only[go_sem]
    exact hN (by rw[ed];unfold jk8;rw[if_pos h1]) ..
   .simp (disch:=go_num) only[go_sem,jad,hs]
    exact qaq hl hp rest (done++[o]) hdn' I' (fun t ht hj x3 x4 x5 x6 x8 J n g=>hQ t (by rw[ed];unfold jk8;rw[if_neg h1];exact ht) hj x3 x4 x5 x6 x8 J oa (fun m hm hne=>(g m oa hne).trans ((k' m hne).trans (gA m hm)))) (fun ht=>hN (by rw[ed];unfold jk8;rw[if_neg h1];exact ht))
  .have c1:((o.kind:Int)≠2)=True:=by simp;omega
   have ed:dfO (o::rest)=dfO rest:=by unfold dfO;rw[List.filter_cons_of_neg (by simpa using e)]
   simp(disch:=go_num) only[go_sem,jad,eq_true hlt,hix,jbc,eA,xA,c1,hs]
   exact qaq hl hp rest (done++[o]) hdn' IA (fun t ht hj x3 x4 x5 x6 x8 J n g=>hQ t (by rw[ed];exact ht) hj x3 x4 x5 x6 x8 J oa (fun m hm hne=>(g m oa hne).trans (gA m hm))) (fun ht=>hN (by rw[ed];exact ht))
theorem qiw {f:Fc} {l:List Ms.Ins} {bF bM bA:Nat} (hl:l.length<=10000) (hp:∀ x∈l,x.ops.length<=6/\∀ o∈x.ops,o.value<f.values.length) {Q:Ex->St->Prop} :
 ∀ (rest done:List Ms.Ins) (_:done++rest=l) {s:List Bool} {hi:Hp} (_:OnI hi f bF bM bA s) {x3 x4 x5 x6 x7 x8 x9 x10 x11 x13:AV}
  (hQ:∀ t,jk8 s (rest.map jdb).flatten=some t->∀ hj x3 x4 x5 x6 x7 x8 x9 x10 x11 x13,OnI hj f bF bM bA t->hi.next<=hj.next->(∀ n,n<hi.next->n≠bA->hj.get n=hi.get n)->Q (.exit 4) (.mk [x0,x1,x2,x3,x4,x5,x6,x7,x8,x9,x10,x11,.s (jaf jdd l),x13,vi l.length,vi l.length,x16,x17,x18,clo bF bM,x20,x21,x22,x23,x24,x25,x26,x27,x28,.s (.ptr bM 0),.s (.ptr bF 0)] hj))
  (hN:jk8 s (rest.map jdb).flatten=none->∀ hj x2 x3 x4 x5 x6 x7 x8 x9 x10 x11 x12 x13 x14 x15 x16 x17 x18 x19 x20 x21 x22 x23 x24 x25 x26 x27 x28 x29 x30,Q .ret (.mk [x0,vi 7,x2,x3,x4,x5,x6,x7,x8,x9,x10,x11,x12,x13,x14,x15,x16,x17,x18,x19,x20,x21,x22,x23,x24,x25,x26,x27,x28,x29,x30] hj)),
  W F5 jth.loop (.mk [x0,x1,x2,x3,x4,x5,x6,x7,x8,x9,x10,x11,.s (jaf jdd l),x13,vi l.length,vi done.length,x16,x17,x18,clo bF bM,x20,x21,x22,x23,x24,x25,x26,x27,x28,.s (.ptr bM 0),.s (.ptr bF 0)] hi) Q
 | [],done,hdn,s,hi,I,x3,x4,x5,x6,x7,x8,x9,x10,x11,x13,hQ,hN=>by
  rw[f06] at hdn
  subst hdn
  rw[jai]
  unfold jth
  simp(disch:=go_num) only[go_sem,f0s]
  exact hQ s rfl hi _ _ _ _ _ _ _ _ _ _ I (f0h _) (fun _ _ _=>rfl)
 | x::rest,done,hdn,s,hi,I,x3,x4,x5,x6,x7,x8,x9,x10,x11,x13,hQ,hN=>by
  have hlt1:done.length<l.length:=by rw[←hdn];simp
  have hlt:(done.length:Int)<l.length:=oa
  have hget:l[done.length]?=some x:=by rw[←hdn];simp
  have hv:=hp x (f0c hget)
  have hix:=jaj (enc:=jdd) (size:=3) hget rfl
  have hdn':(done++[x])++rest=l:=by rw[←hdn];simp
  have hs:(done.length:Int)+1=(((done++[x]).length:Nat):Int):=se
  have ok:=I.ok
  obtain⟨hA,eA,okA,nA,xA,gA⟩:=jby ok Zg (jdd x) 62
  have IA:=I.keep okA oa gA
  have l1:=jah (enc:=jbc) (l:=x.ops)
  have ed:((x::rest).map jdb).flatten=dfO x.ops++(rest.map jdb).flatten:=rfl
  unfold jdd at xA eA
  rw[jai]
  unfold jth j96
  simp(disch:=go_num) only[go_sem,jad,eq_true hlt,hix,jdd,eA,xA,l1]
  refine qaq oa hv.2 x.ops [] rfl IA (fun t ht hj x3 x4 x5 x6 x8 J n g=>?_) (fun ht=>?_)
  .simp (disch:=go_num) only[go_sem,jad,hs]
   exact qiw hl hp rest (done++[x]) hdn' J (fun t' ht' hk x3 x4 x5 x6 x7 x8 x9 x10 x11 x13 J' n' g'=>hQ t' (by rw[ed,jjh ht];exact ht') hk x3 x4 x5 x6 x7 x8 x9 x10 x11 x13 J' oa (fun m hm hne=>(g' m oa hne).trans ((g m oa hne).trans (gA m hm)))) (fun ht'=>hN (by rw[ed,jjh ht];exact ht'))
  .intro hj x2 x3 x4 x5 x6 x7 x8 x9 x10 x11 x12 x13 x14 x15 x16 x17 x18 x19 x20 x21 x22 x23 x24 x25 x26 x27 x28 x29 x30
   simp(disch:=go_num) only[go_sem]
   exact hN (by rw[ed,jzh ht]) ..
theorem qix {f:Fc} {bF bM bA:Nat} (hl:f.blocks.length<=10000) (hp:∀ b∈f.blocks,b.params.length<=10000/\b.instrs.length<=10000/\(∀ v∈b.params,v<f.values.length)/\∀ x∈b.instrs,x.ops.length<=6/\∀ o∈x.ops,o.value<f.values.length) {Q:Ex->St->Prop} :
 ∀ (rest done:List Blk) (_:done++rest=f.blocks) {s:List Bool} {hi:Hp} (_:OnI hi f bF bM bA s) {x3 x4 x5 x6 x7 x8 x9 x10 x11 x12 x13 x14 x15 x16 x17 x18 x20 x21 x22 x23 x24 x26:AV}
  (hQ:∀ t,jk8 s (jdo rest)=some t->∀ hj x3 x4 x5 x6 x7 x8 x9 x10 x11 x12 x13 x14 x15 x16 x17 x18 x20 x21 x22 x23 x24 x26,OnI hj f bF bM bA t->Q (.exit 0) (.mk [x0,x1,x2,x3,x4,x5,x6,x7,x8,x9,x10,x11,x12,x13,x14,x15,x16,x17,x18,clo bF bM,x20,x21,x22,x23,x24,.s (jaf ja6 f.blocks),x26,vi f.blocks.length,vi f.blocks.length,.s (.ptr bM 0),.s (.ptr bF 0)] hj))
  (hN:jk8 s (jdo rest)=none->∀ hj x2 x3 x4 x5 x6 x7 x8 x9 x10 x11 x12 x13 x14 x15 x16 x17 x18 x19 x20 x21 x22 x23 x24 x25 x26 x27 x28 x29 x30,Q .ret (.mk [x0,vi 7,x2,x3,x4,x5,x6,x7,x8,x9,x10,x11,x12,x13,x14,x15,x16,x17,x18,x19,x20,x21,x22,x23,x24,x25,x26,x27,x28,x29,x30] hj)),
  W F5 jti.loop (.mk [x0,x1,x2,x3,x4,x5,x6,x7,x8,x9,x10,x11,x12,x13,x14,x15,x16,x17,x18,clo bF bM,x20,x21,x22,x23,x24,.s (jaf ja6 f.blocks),x26,vi f.blocks.length,vi done.length,.s (.ptr bM 0),.s (.ptr bF 0)] hi) Q
 | [],done,hdn,s,hi,I,x3,x4,x5,x6,x7,x8,x9,x10,x11,x12,x13,x14,x15,x16,x17,x18,x20,x21,x22,x23,x24,x26,hQ,hN=>by
  rw[f06] at hdn
  rw[jai,hdn]
  unfold jti
  simp(disch:=go_num) only[go_sem,f0s]
  exact hQ s rfl hi _ _ _ _ _ _ _ _ _ _ _ _ _ _ _ _ _ _ _ _ _ _ I
 | b::rest,done,hdn,s,hi,I,x3,x4,x5,x6,x7,x8,x9,x10,x11,x12,x13,x14,x15,x16,x17,x18,x20,x21,x22,x23,x24,x26,hQ,hN=>by
  have hlt1:done.length<f.blocks.length:=by rw[←hdn];simp
  have hlt:(done.length:Int)<f.blocks.length:=oa
  have hget:f.blocks[done.length]?=some b:=by rw[←hdn];simp
  obtain⟨p1,p2,p3,p4⟩:=hp b (f0c hget)
  have hix:=jaj (enc:=ja6) (size:=3) hget rfl
  have hdn':(done++[b])++rest=f.blocks:=by rw[←hdn];simp
  have hs:(done.length:Int)+1=(((done++[b]).length:Nat):Int):=se
  have ok:=I.ok
  obtain⟨hA,eA,okA,nA,xA,gA⟩:=jby ok Zi (ja6 b) 58
  have IA:=I.keep okA oa gA
  have l1:=jah (enc:=jav) (l:=b.params)
  have l2:=jah (enc:=jdd) (l:=b.instrs)
  have ed:jdo (b::rest)=b.params++((b.instrs.map jdb).flatten++jdo rest):=by simp[jdo,js8]
  have hneA:hi.next≠bA:=by have:=I.lt;omega
  unfold ja6 at xA eA
  rw[jai]
  unfold jti j97
  simp(disch:=go_num) only[go_sem,jad,eq_true hlt,hix,ja6,eA,xA,l1]
  refine qiv p1 p3 b.params [] rfl IA (fun t ht hj x16 x17 x18 x21 J n g=>?_) (fun ht=>?_)
  .have xJ:=(g _ oa hneA).trans xA
   simp(disch:=go_num) only[go_sem,xJ,l2]
   refine qiw p2 p4 b.instrs [] rfl J (fun t' ht' hk x3 x4 x5 x6 x7 x8 x9 x10 x11 x13 J' n' g'=>?_) (fun ht'=>?_)
   .simp (disch:=go_num) only[go_sem,jad,hs]
    exact qix hl hp rest (done++[b]) hdn' J' (fun t2 ht2=>hQ t2 (by rw[ed,jjh ht,jjh ht'];exact ht2)) (fun ht2=>hN (by rw[ed,jjh ht,jjh ht'];exact ht2))
   .intro hj x2 x3 x4 x5 x6 x7 x8 x9 x10 x11 x12 x13 x14 x15 x16 x17 x18 x19 x20 x21 x22 x23 x24 x25 x26 x27 x28 x29 x30
    simp(disch:=go_num) only[go_sem]
    exact hN (by rw[ed,jjh ht,jzh ht']) ..
  .intro hj x2 x3 x4 x5 x6 x7 x8 x9 x10 x11 x12 x13 x14 x15 x16 x17 x18 x19 x20 x21 x22 x23 x24 x25 x26 x27 x28 x29 x30
   simp(disch:=go_num) only[go_sem]
   exact hN (by rw[ed,jzh ht]) ..
theorem j15 {s:List Bool} {bA:Nat} (hl:s.length<=10000) {Q:Ex->St->Prop} :
 ∀ (rest done:List Bool) (_:done++rest=s) {hi:Hp} (_:Ok hi) (_:hi.get bA=some (.arr (bls s) 4)) {x3 x4 x5:AV}
  (hQ:false∉rest->∀ hj x3 x4 x5,Q (.exit 0) (.mk [.s (.slice bA 0 s.length s.length true 1),vb false,x2,x3,x4,x5,vi s.length,vi s.length] hj))
  (hF:∀ (k:Nat) hj x3 x4 x5 x6 x7,false∈rest->Q .ret (.mk [.s (.slice bA 0 s.length s.length true 1),vb false,vi k,x3,x4,x5,x6,x7] hj)),
  W F5 jnf.loop (.mk [.s (.slice bA 0 s.length s.length true 1),vb false,x2,x3,x4,x5,vi s.length,vi done.length] hi) Q
 | [],done,hdn,hi,ok,xA,x3,x4,x5,hQ,hF=>by
  rw[f06] at hdn
  rw[jai,hdn]
  unfold jnf
  simp(disch:=go_num) only[go_sem,f0s]
  exact hQ se hi ..
 | b::rest,done,hdn,hi,ok,xA,x3,x4,x5,hQ,hF=>by
  have hlt1:done.length<s.length:=by rw[←hdn];simp
  have hlt:(done.length:Int)<s.length:=oa
  have hget:s[done.length]?=some b:=by rw[←hdn];simp
  have hcell:(bls s)[done.length]?=some (.bool b):=by unfold bls;rw[f09,hget];rfl
  have hrd:rdB (hi.get bA) done.length 1=some [.bool b]:=by rw[xA];exact jwq hcell
  have hix:=jct (size:=1) (b:=bA) (off:=0) (len:=s.length) (mc:=s.length) (sz:=1) (ex:=true) (m:=done.length) hlt1
  rw[f1b,f12] at hix
  have hdn':(done++[b])++rest=s:=by rw[←hdn];simp
  have hs:(done.length:Int)+1=(((done++[b]).length:Nat):Int):=se
  rw[jai]
  unfold jnf j10
  cases b with
  | true =>
   simp(disch:=go_num) only[go_sem,jad,eq_true hlt,hix,hrd,jpu,q1c,hs]
   exact j15 hl rest (done++[true]) hdn' ok xA (fun h=>hQ (by simpa using h)) (fun k hj x3 x4 x5 x6 x7 h=>hF k hj x3 x4 x5 x6 x7 (by simp[h]))
  | false =>
   simp(disch:=go_num) only[go_sem,jad,eq_true hlt,hix,hrd,jpu,q1c,hs]
   exact hF _ _ _ _ _ _ _ se
theorem qnz {hi:Hp} (ok:Ok hi) {s:List Bool} {bA:Nat} (hl:s.length<=10000) (xA:hi.get bA=some (.arr (bls s) 4)):WC F5 89 [.s (.slice bA 0 s.length s.length true 1),vb false] hi (fun u h'=>u=vb (decide (false∈s))):=by
 refine jaz (no5 rfl rfl rfl rfl rfl) qz4 rfl ?_
 unfold qim
 simp(disch:=go_num) only[go_sem]
 refine WC.imp (Q:=fun u h'=>(false∈s/\∃ k:Nat,u=vi k)∨(false∉s/\u=vi (-1))) ?_ ?_
 .refine jaz (no5 rfl rfl rfl rfl rfl) qs4 rfl ?_
  unfold qaj
  simp(disch:=go_num) only[go_sem]
  refine j15 hl s [] rfl ok xA (fun h hj x3 x4 x5=>?_) (fun k hj x3 x4 x5 x6 x7 h=>?_)
  .simp (disch:=go_num) only[go_sem]
   first | exact .inr ⟨h,rfl⟩ | exact .inr h
  .simp (disch:=go_num) only[go_sem]
   exact .inl ⟨h,k,rfl⟩
 .rintro u h' (⟨h,k,rfl⟩ | ⟨h,rfl⟩)
  .have c1:(0<=(k:Int))=True:=se
   simp(disch:=go_num) only[go_sem,c1,h]
  .simp (disch:=go_num) only[go_sem,h]
def jl2 (f:Fc):Nat:=match jk8 (List.replicate f.values.length false) (jdo f.blocks) with
 | none=>7
 | some t=>if false∈t then 6 else 0
theorem qn0 {h:Hp} (ok:Ok h) {f:Fc} (hl:f.blocks.length<=10000) (hv:f.values.length<=10000) (hp:∀ b∈f.blocks,b.params.length<=10000/\b.instrs.length<=10000/\(∀ v∈b.params,v<f.values.length)/\∀ x∈b.instrs,x.ops.length<=6/\∀ o∈x.ops,o.value<f.values.length) :
 WC F5 61 [.agg (Zk f)] h (fun v h'=>∃ d,jf9 true h' d v=some (vi (jl2 f))):=by
 refine jaz (no5 rfl rfl rfl rfl rfl) qz0 rfl ?_
 unfold qii
 have hpos:=ok.pos
 obtain⟨hA,eA,okA,nA,xA,gA⟩:=jdw ok (Zk f) 32
 obtain⟨hB,eB,okB,nB,xB,gB⟩:=jdw okA (rep [.bool false] f.values.length) 4
 obtain⟨hC,eC,okC,nC,xC,gC⟩:=jby okB [.nilSlice] [.slice hA.next 0 f.values.length f.values.length true 1] 130
 have nb:hB.next=h.next+2:=oa
 rw[qiu] at xB
 have hbl:bls (List.replicate f.values.length false)=List.replicate f.values.length (.bool false):=by unfold bls;rw[List.map_replicate]
 rw[←hbl] at xB
 have I:OnI hC f h.next hB.next hA.next (List.replicate f.values.length false) :=
  ⟨okC,f2l,⟨oa,oa,oa⟩,⟨oa,oa,oa⟩,(gC _ oa).trans ((gB _ oa).trans xA),xC,(gC _ oa).trans xB⟩
 have l1:=jah (enc:=jav) (l:=f.values)
 have l2:=jah (enc:=ja6) (l:=f.blocks)
 have hmk:=jyt (e:=4) (size:=1) (bytes:=1) (z:=[.bool false]) (m:=f.values.length) okA oa oa
 rw[eB] at hmk
 have xF:=I.xF
 rw[nA,nb] at I
 rw[nA] at hmk eC
 rw[nb] at eC
 simp(disch:=go_num) only[go_sem,eA,xA,l1,hmk,nb,eC,nA,xF,l2,jvw]
 refine qix hl hp f.blocks [] rfl I (fun t ht hj x3 x4 x5 x6 x7 x8 x9 x10 x11 x12 x13 x14 x15 x16 x17 x18 x20 x21 x22 x23 x24 x26 J=>?_) (fun ht=>?_)
 .have xM:=J.xM
  have eo:jl2 f=if false∈t then 6 else 0:=by unfold jl2;rw[ht]
  rw[eo]
  simp(disch:=go_num) only[go_sem,xM]
  have hts:t.length=f.values.length:=J.hs
  have hct:=qnz J.ok (s:=t) oa J.xA
  rw[hts] at hct
  refine WC.imp hct ?_
  rintro u h' rfl
  by_cases e:false∈t
  .simp (disch:=go_num) only[go_sem,e]
   exact⟨1,rfl⟩
  .simp (disch:=go_num) only[go_sem,e]
   unfold j98
   simp(disch:=go_num) only[go_sem]
   exact⟨1,rfl⟩
 .intro hj x2 x3 x4 x5 x6 x7 x8 x9 x10 x11 x12 x13 x14 x15 x16 x17 x18 x19 x20 x21 x22 x23 x24 x25 x26 x27 x28 x29 x30
  have eo:jl2 f=7:=by unfold jl2;rw[ht]
  rw[eo]
  simp(disch:=go_num) only[go_sem]
  exact⟨1,rfl⟩
def S6 (f:FuncId):Bool:=Nat.beq f 59||Nat.beq f 61
def F6:Fns:=PX S6 F5
theorem q41 {A:Nat->Int}:Env Tryz.prog A tys F6:=jer q40
theorem no6 {f:FuncId} (h1:S1 f=false) (h2:Nat.beq f jgm.f=false) (h3:S3 f=false) (h4:S4 f=false) (h5:S5 f=false) (h6:S6 f=false) {h:Hp}:jc1 F6 f vs h=none:=(ja0 h6).trans (no5 h1 h2 h3 h4 h5)
theorem qar {m:Nat×Nat} {f:Fc} (k:FcOk m f):∀ b∈f.blocks,b.params.length<=10000/\b.instrs.length<=10000/\(∀ v∈b.params,v<f.values.length)/\∀ x∈b.instrs,x.ops.length<=6/\∀ o∈x.ops,o.value<f.values.length:=fun b hb=>by
 have h1:=k.blk b hb
 exact⟨oa,oa,k.prm b hb,fun x hx=>⟨(k.ins b hb x hx).nops,fun o ho=>((k.ins b hb x hx).opd o ho).val⟩⟩
section
variable {h:Hp} {f:Fc} {m:Nat×Nat} {Q:AV->Hp->Prop}
theorem qta (m1:2<=m.1/\m.1<=10) (m2:2<=m.2/\m.2<=10):WC F6 57 [.agg [si m.1,si m.2]] h Q=Q (vi 0) h :=
 jam ((ja0 rfl).trans ((ja0 rfl).trans (jbg rfl (by rfl) (qs6 jdv m1 m2))))
theorem qtb (k:FcOk m f):WC F6 58 [.agg (Zk f)] h Q=Q (vi 0) h :=
 jam ((ja0 rfl).trans ((ja0 rfl).trans (jbg rfl (by simp[jaw,ja5,jbi,ja7,jbj,jbd,jbl]) (qs8 jdv k))))
theorem qn1 {op:Nat} {ops:List Ms.Opd} {sp:List (Nat×Nat)} (hc:∀ v,cl f.values v<2) (k:InsOk m f.values ⟨op,ops,sp⟩):WC F6 59 [.agg (Zk f),.agg [si m.1,si m.2],.agg [si op,jaf jbc ops,jaf jcq sp]] h Q=Q (vi 0) h :=
 jam (jbg rfl (by simp[jaw,ja5,jbi,ja7,jbj,jbd,jbt,jbl]) (qnw jdv hc k))
theorem qn2 {e:Ms.Edg} (k:jqv f.values f.blocks e) (hl:e.args.length<=10000):WC F6 60 [.agg (Zk f),.agg [si e.block,jaf jav e.args]] h Q=Q (vi 0) h :=
 jam ((ja0 rfl).trans (jbg rfl (by simp[jaw,ja5,jbi,ja7,jbj,jbd,jbt,jbl]) (qnm jdv k hl)))
theorem qn3 (k:FcOk m f):WC F6 61 [.agg (Zk f)] h Q=Q (vi (jl2 f)) h :=
 jam (jbg rfl (by simp[jaw,ja5,jbi,ja7,jbj,jbd,jbl]) (qn0 jdv (by have:=k.nb;omega) (by have:=k.nv;omega) (qar k)))
end
theorem qiy {l:List Nat} (hl:l.length<=10000) (hp:∀ c∈l,c<2) {x32:AV} {Q:Ex->St->Prop} :
 ∀ (d i:Nat) (_:i+d=l.length) {hi:Hp} (_:Ok hi) {x24 x25 x27:AV}
  (hQ:∀ x24 x25 x27,Q (.exit 0) (.mk [x0,x1,x2,x3,x4,x5,x6,x7,x8,x9,x10,x11,x12,x13,x14,x15,x16,x17,x18,x19,x20,x21,x22,x23,x24,x25,.s (jaf jav l),x27,vi l.length,vi l.length,x30,x31,x32,x33,x34,x35] hi)),
  W F6 jtj.loop (.mk [x0,x1,x2,x3,x4,x5,x6,x7,x8,x9,x10,x11,x12,x13,x14,x15,x16,x17,x18,x19,x20,x21,x22,x23,x24,x25,.s (jaf jav l),x27,vi l.length,vi i,x30,x31,x32,x33,x34,x35] hi) Q
 | 0,i,hd,hi,ok,x24,x25,x27,hQ=>by
  obtain rfl:i=l.length:=oa
  rw[jai]
  unfold jtj
  simp(disch:=rfl) only[go_sem,f0s]
  grind
 | d+1,i,hd,hi,ok,x24,x25,x27,hQ=>by
  have hlt:(i:Int)<(l.length:Int):=oa
  obtain⟨c,hio⟩:∃ y,l[i]?=some y:=⟨_,f0b oa⟩
  have hc:=hp c (f0c hio)
  have hix:=jaj (enc:=jav) (size:=1) hio rfl
  have hs:(i:Int)+1=((i+1:Nat):Int):=oa
  have c1:((c:Int)<0)=False:=se
  have c2:(2<=(c:Int))=False:=by simp;omega
  rw[jai]
  unfold jtj qab
  simp(disch:=go_num) only[go_sem,jad,eq_true hlt,hix,jav,c1,c2,hs]
  exact qiy hl hp d (i+1) oa ok hQ
theorem qiz {f:Fc} {m:Nat×Nat} {l:List Ms.Ins} (hl:l.length<=10000) (hc:∀ v,cl f.values v<2) (hp:∀ x∈l,InsOk m f.values x) {bF bM:Nat} {Q:Ex->St->Prop} :
 ∀ (d i:Nat) (_:i+d=l.length) {hi:Hp} (_:Ok hi) (_:bF<hi.next/\bM<hi.next) (_:hi.get bF=some (.arr (Zk f) 32)) (_:hi.get bM=some (.arr [si m.1,si m.2] 28)) {x11 x12 x13 x15:AV}
  (hQ:∀ hj x11 x12 x13 x15,Ok hj->hi.next<=hj.next->(∀ k,k<hi.next->hj.get k=hi.get k)->Q (.exit 4) (.mk [x0,x1,x2,x3,x4,x5,x6,x7,x8,x9,x10,x11,x12,x13,.s (jaf jdd l),x15,vi l.length,vi l.length,x18,x19,x20,x21,x22,x23,x24,x25,x26,x27,x28,x29,x30,x31,.s (.ptr bF 0),x33,x34,.s (.ptr bM 0)] hj)),
  W F6 jtk.loop (.mk [x0,x1,x2,x3,x4,x5,x6,x7,x8,x9,x10,x11,x12,x13,.s (jaf jdd l),x15,vi l.length,vi i,x18,x19,x20,x21,x22,x23,x24,x25,x26,x27,x28,x29,x30,x31,.s (.ptr bF 0),x33,x34,.s (.ptr bM 0)] hi) Q
 | 0,i,hd,hi,ok,hb,xF,xM,x11,x12,x13,x15,hQ=>by
  obtain rfl:i=l.length:=oa
  rw[jai]
  unfold jtk
  simp(disch:=go_num) only[go_sem,f0s]
  grind
 | d+1,i,hd,hi,ok,hb,xF,xM,x11,x12,x13,x15,hQ=>by
  have hlt:(i:Int)<(l.length:Int):=oa
  obtain⟨x,hio⟩:∃ y,l[i]?=some y:=⟨_,f0b oa⟩
  have hx:InsOk m f.values ⟨x.op,x.ops,x.spoils⟩:=hp x (f0c hio)
  have hix:=jaj (enc:=jdd) (size:=3) hio rfl
  have hs:(i:Int)+1=((i+1:Nat):Int):=oa
  obtain⟨hA,eA,okA,nA,xA,gA⟩:=jby ok Zg (jdd x) 62
  have yF:=(gA _ hb.1).trans xF
  have yM:=(gA _ hb.2).trans xM
  unfold jdd at xA eA
  rw[jai]
  unfold jtk qac
  simp(disch:=go_num) only[go_sem,jad,eq_true hlt,hix,jdd,eA,xA,yF,yM,qn1 hc hx,hs]
  exact qiz hl hc hp d (i+1) oa okA ⟨oa,oa⟩ yF yM (fun hj x11 x12 x13 x15 o n g=>hQ hj x11 x12 x13 x15 o oa (fun k hk=>(g k oa).trans (gA k hk)))
theorem qi0 {f:Fc} {l:List Ms.Edg} (hl:l.length<=10000) (hp:∀ e∈l,jqv f.values f.blocks e/\e.args.length<=10000) {bF:Nat} {Q:Ex->St->Prop} :
 ∀ (d i:Nat) (_:i+d=l.length) {hi:Hp} (_:Ok hi) (_:bF<hi.next) (_:hi.get bF=some (.arr (Zk f) 32)) {x3 x4 x5 x7:AV}
  (hQ:∀ hj x3 x4 x5 x7,Ok hj->hi.next<=hj.next->(∀ k,k<hi.next->hj.get k=hi.get k)->Q (.exit 6) (.mk [x0,x1,x2,x3,x4,x5,.s (jaf jeo l),x7,vi l.length,vi l.length,x10,x11,x12,x13,x14,x15,x16,x17,x18,x19,x20,x21,x22,x23,x24,x25,x26,x27,x28,x29,x30,x31,.s (.ptr bF 0),x33,x34,x35] hj)),
  W F6 jtl.loop (.mk [x0,x1,x2,x3,x4,x5,.s (jaf jeo l),x7,vi l.length,vi i,x10,x11,x12,x13,x14,x15,x16,x17,x18,x19,x20,x21,x22,x23,x24,x25,x26,x27,x28,x29,x30,x31,.s (.ptr bF 0),x33,x34,x35] hi) Q
 | 0,i,hd,hi,ok,hb,xF,x3,x4,x5,x7,hQ=>by
  obtain rfl:i=l.length:=oa
  rw[jai]
  unfold jtl
  simp(disch:=rfl) only[go_sem,f0s]
  grind
 | d+1,i,hd,hi,ok,hb,xF,x3,x4,x5,x7,hQ=>by
  have hlt:(i:Int)<(l.length:Int):=oa
  obtain⟨e,hio⟩:∃ y,l[i]?=some y:=⟨_,f0b oa⟩
  obtain⟨he,hal⟩:=hp e (f0c hio)
  have hix:=jaj (enc:=jeo) (size:=2) hio rfl
  have hs:(i:Int)+1=((i+1:Nat):Int):=oa
  obtain⟨hA,eA,okA,nA,xA,gA⟩:=jby ok Zh (jeo e) 65
  have yF:=(gA _ hb).trans xF
  unfold jeo at xA eA
  rw[jai]
  unfold jtl qad
  simp(disch:=go_num) only[go_sem,jad,eq_true hlt,hix,jeo,eA,xA,yF,qn2 he hal,hs]
  exact qi0 hl hp d (i+1) oa okA oa yF (fun hj x3 x4 x5 x7 o n g=>hQ hj x3 x4 x5 x7 o oa (fun k hk=>(g k oa).trans (gA k hk)))
theorem qas {f:Fc} {m:Nat×Nat} (k:FcOk m f) {bF bM:Nat} {Q:Ex->St->Prop} :
 ∀ (d i:Nat) (_:i+d=f.blocks.length) {hi:Hp} (_:Ok hi) (_:bF<hi.next/\bM<hi.next) (_:hi.get bF=some (.arr (Zk f) 32)) (_:hi.get bM=some (.arr [si m.1,si m.2] 28))
  {x3 x4 x5 x6 x7 x8 x9 x10 x11 x12 x13 x14 x15 x16 x17 x18 x20:AV}
  (hQ:∀ hj x3 x4 x5 x6 x7 x8 x9 x10 x11 x12 x13 x14 x15 x16 x17 x18 x20,Ok hj->hj.get bF=hi.get bF->Q (.exit 2) (.mk [x0,x1,x2,x3,x4,x5,x6,x7,x8,x9,x10,x11,x12,x13,x14,x15,x16,x17,x18,.s (jaf ja6 f.blocks),x20,vi f.blocks.length,vi f.blocks.length,x23,x24,x25,x26,x27,x28,x29,x30,x31,.s (.ptr bF 0),x33,x34,.s (.ptr bM 0)] hj)),
  W F6 jtm.loop (.mk [x0,x1,x2,x3,x4,x5,x6,x7,x8,x9,x10,x11,x12,x13,x14,x15,x16,x17,x18,.s (jaf ja6 f.blocks),x20,vi f.blocks.length,vi i,x23,x24,x25,x26,x27,x28,x29,x30,x31,.s (.ptr bF 0),x33,x34,.s (.ptr bM 0)] hi) Q
 | 0,i,hd,hi,ok,hb,xF,xM,x3,x4,x5,x6,x7,x8,x9,x10,x11,x12,x13,x14,x15,x16,x17,x18,x20,hQ=>by
  obtain rfl:i=f.blocks.length:=oa
  rw[jai]
  unfold jtm
  simp(disch:=go_num) only[go_sem,f0s]
  grind
 | d+1,i,hd,hi,ok,hb,xF,xM,x3,x4,x5,x6,x7,x8,x9,x10,x11,x12,x13,x14,x15,x16,x17,x18,x20,hQ=>by
  have nb:=k.nb
  have nv:=k.nv
  have hlt:(i:Int)<(f.blocks.length:Int):=oa
  obtain⟨b,hio⟩:∃ y,f.blocks[i]?=some y:=⟨_,f0b oa⟩
  have hbm:=f0c hio
  have hbk:=k.blk b hbm
  have hix:=jaj (enc:=ja6) (size:=3) hio rfl
  have hs:(i:Int)+1=((i+1:Nat):Int):=oa
  obtain⟨hA,eA,okA,nA,xA,gA⟩:=jby ok Zi (ja6 b) 58
  have yF:=(gA _ hb.1).trans xF
  have yM:=(gA _ hb.2).trans xM
  have l1:=jah (enc:=jdd) (l:=b.instrs)
  have l2:=jah (enc:=jeo) (l:=b.edges)
  have hE:∀ e∈b.edges,jqv f.values f.blocks e/\e.args.length<=10000:=fun e he=>by
   have h1:=k.edg b hbm e he
   refine⟨h1,?_⟩
   obtain⟨_,_,t,h2,h3,_⟩:=h1
   have h4:=(k.blk t (f0c h2)).1
   have:=congrArg List.length h3
   simp only[f03] at this
   omega
  have fin:∀ (x3 x4 x5 x7:AV) (x11 x12 x13 x15:AV) (hk:Hp),Ok hk->hA.next<=hk.next->(∀ n,n<hA.next->hk.get n=hA.get n)->∀ (x10:AV) (K:Ex->St->Prop),(∀ hj x3 x4 x5 x7,Ok hj->hk.next<=hj.next->(∀ n,n<hk.next->hj.get n=hk.get n)->K .normal (.mk [x0,x1,x2,x3,x4,x5,.s (jaf jeo b.edges),x7,vi b.edges.length,vi b.edges.length,x10,x11,x12,x13,.s (jaf jdd b.instrs),x15,vi b.instrs.length,vi b.instrs.length,.s (.ptr hi.next 0),.s (jaf ja6 f.blocks),vb true,vi f.blocks.length,vi i,x23,x24,x25,x26,x27,x28,x29,x30,x31,.s (.ptr bF 0),x33,x34,.s (.ptr bM 0)] hj)) ->
   ∀ (x6 x8 x9:AV),W F6 jzg (.mk [x0,x1,x2,x3,x4,x5,x6,x7,x8,x9,x10,x11,x12,x13,.s (jaf jdd b.instrs),x15,vi b.instrs.length,vi b.instrs.length,.s (.ptr hi.next 0),.s (jaf ja6 f.blocks),vb true,vi f.blocks.length,vi i,x23,x24,x25,x26,x27,x28,x29,x30,x31,.s (.ptr bF 0),x33,x34,.s (.ptr bM 0)] hk) K:=fun x3 x4 x5 x7 x11 x12 x13 x15 hk o n g x10 K hK x6 x8 x9=>by
   have zA:=(g hi.next oa).trans xA
   have zF:=(g bF oa).trans yF
   unfold ja6 at zA
   unfold jzg
   simp(disch:=go_num) only[go_sem,zA,l2]
   refine qi0 oa hE b.edges.length 0 oa o oa zF (fun hj x3 x4 x5 x7 o' n' g'=>?_)
   simp(disch:=go_num) only[go_sem]
   exact hK hj x3 x4 x5 x7 o' n' g'
  have zz:∀ (hk:Hp),hA.next<=hk.next->(∀ n,n<hA.next->hk.get n=hA.get n)->hk.get hi.next=some (.arr [jaf jav b.params,jaf jdd b.instrs,jaf jeo b.edges] 58):=fun hk n g=>(g _ oa).trans xA
  unfold ja6 at eA xA
  rw[jai]
  unfold jtm qae
  simp(disch:=go_num) only[go_sem,jad,eq_true hlt,hix,ja6,eA,xA,l1]
  refine qiz oa (j5u k.cls) (k.ins b hbm) b.instrs.length 0 oa okA ⟨oa,oa⟩ yF yM (fun hj x11 x12 x13 x15 o n g=>?_)
  have zA:=zz hj n g
  by_cases e:1<b.edges.length
  .have c1:(1<(b.edges.length:Int))=True:=by simp;omega
   have hne:=f1v.2 (k.par b hbm e)
   have c2:((b.instrs.length:Int)=0)=False:=eq_false oa
   simp(disch:=go_num) only[go_sem,zA,l1,l2,c1,c2]
   refine fin _ _ _ _ _ _ _ _ hj o n g _ _ (fun hk x3 x4 x5 x7 o' n' g'=>?_) _ _ _
   simp(disch:=go_num) only[go_sem,jad,hs]
   exact qas k d (i+1) oa o' ⟨oa,oa⟩ ((g' _ oa).trans ((g _ oa).trans yF)) ((g' _ oa).trans ((g _ oa).trans yM)) (fun h2 x3 x4 x5 x6 x7 x8 x9 x10 x11 x12 x13 x14 x15 x16 x17 x18 x20 o2 g2=>hQ h2 x3 x4 x5 x6 x7 x8 x9 x10 x11 x12 x13 x14 x15 x16 x17 x18 x20 o2 (g2.trans ((g' _ oa).trans ((g _ oa).trans (gA _ hb.1)))))
  .have c1:(1<(b.edges.length:Int))=False:=by simp;omega
   simp(disch:=go_num) only[go_sem,zA,l1,l2,c1]
   refine fin _ _ _ _ _ _ _ _ hj o n g _ _ (fun hk x3 x4 x5 x7 o' n' g'=>?_) _ _ _
   simp(disch:=go_num) only[go_sem,jad,hs]
   exact qas k d (i+1) oa o' ⟨oa,oa⟩ ((g' _ oa).trans ((g _ oa).trans yF)) ((g' _ oa).trans ((g _ oa).trans yM)) (fun h2 x3 x4 x5 x6 x7 x8 x9 x10 x11 x12 x13 x14 x15 x16 x17 x18 x20 o2 g2=>hQ h2 x3 x4 x5 x6 x7 x8 x9 x10 x11 x12 x13 x14 x15 x16 x17 x18 x20 o2 (g2.trans ((g' _ oa).trans ((g _ oa).trans (gA _ hb.1)))))
theorem qn4 {h:Hp} (ok:Ok h) {f:Fc} {m:Nat×Nat} (k:FcOk m f) (m1:2<=m.1/\m.1<=10) (m2:2<=m.2/\m.2<=10):WC F6 41 [.agg (Zk f),.agg [si m.1,si m.2]] h (fun v h'=>∃ d,jf9 true h' d v=some (vi (jl2 f))):=by
 refine jaz (no6 rfl rfl rfl rfl rfl rfl) qz2 rfl ?_
 unfold qik
 have nb:=k.nb
 have nv:=k.nv
 obtain⟨hA,eA,okA,nA,xA,gA⟩:=jdw ok (Zk f) 32
 obtain⟨hB,eB,okB,nB,xB,gB⟩:=jdw okA [si m.1,si m.2] 28
 have yA:=(gB _ oa).trans xA
 rw[nA] at xB
 obtain⟨b0,hb0⟩:∃ y,f.blocks[0]?=some y:=⟨_,f0b oa⟩
 have h0:=k.ent b0 hb0
 have ix0:jqo 3 (.s (jaf ja6 f.blocks)) (vi 0)=some (.s (.cp (ja6 b0))):=jaj (enc:=ja6) (size:=3) hb0 rfl
 have l1:=jah (enc:=jav) (l:=f.values)
 have l2:=jah (enc:=ja6) (l:=f.blocks)
 have l3:=jah (enc:=jav) (l:=b0.params)
 rw[h0] at l3
 simp(disch:=go_num) only[go_sem,eA,eB,nA,xB,qta m1 m2]
 unfold qah
 simp(disch:=go_num) only[go_sem,yA,qtb k]
 unfold qag
 simp(disch:=go_num) only[go_sem,yA,l1]
 refine qiy oa k.cls f.values.length 0 oa okB (fun x24 x25 x27=>?_)
 simp(disch:=go_num) only[go_sem,yA,ix0,ja6,h0,qfr]
 unfold qaf
 simp(disch:=go_num) only[go_sem,yA,l2]
 refine qas k f.blocks.length 0 oa okB ⟨oa,oa⟩ yA xB (fun hj x3 x4 x5 x6 x7 x8 x9 x10 x11 x12 x13 x14 x15 x16 x17 x18 x20 o g=>?_)
 have zA:=g.trans yA
 simp(disch:=go_num) only[go_sem,zA,qn3 k]
 exact⟨1,rfl⟩
theorem qat:∀ (l:List Nat) (s:List Bool),l.Nodup->(∀ v∈l,s[v]?=some false)->∃ t,jk8 s l=some t/\t.length=s.length/\∀ i,t[i]?=if i∈l then some true else s[i]?
 | [],s,_,_=>⟨s,rfl,rfl,fun i=>se⟩
 | v::l,s,hd,hf=>by
  have hv:=hf v se
  have hlt:v<s.length:=by
   rcases f0n v s.length with h | h
   .exact h
   .rw [f0y h] at hv;cases hv
  obtain⟨hn,hd'⟩:=f0r.1 hd
  obtain⟨t,h1,h2,h3⟩:=qat l (s.set v true) hd' (fun u hu=>by
   have hne:v≠u:=fun e=>hn (e▸hu)
   rw[f2f hne];exact hf u (by simp[hu]))
  refine⟨t,by unfold jk8;rw[if_neg (by rw[hv];simp)];exact h1,by rw[h2,f28],fun i=>?_⟩
  rw[h3]
  by_cases e:i=v
  .subst e
   rw[if_neg hn,if_pos se,List.getElem?_set_self hlt]
  .by_cases h:i∈l
   .rw [if_pos h,if_pos (by simp[h])]
   .rw [if_neg h,if_neg (by simp[e,h]),f2f (fun x=>e x.symm)]
theorem qgc {f:Fc} (h:(jdo f.blocks).Perm (List.range f.values.length)):jl2 f=0:=by
 have hm:∀ v,v∈jdo f.blocks↔v<f.values.length:=fun v=>by rw[h.mem_iff,List.mem_range]
 obtain⟨t,h1,h2,h3⟩:=qat (jdo f.blocks) (List.replicate f.values.length false) (h.nodup_iff.2 List.nodup_range) (fun v hv=>by rw[List.getElem?_replicate,if_pos ((hm v).1 hv)])
 unfold jl2
 rw[h1]
 rw[f2l] at h2
 have:false∉t:=fun hf=>by
  obtain⟨i,hi⟩:=f2o hf
  have hlt:i<t.length:=by
   rcases f0n i t.length with h | h
   .exact h
   .rw [f0y h] at hi;cases hi
  rw[h3,if_pos ((hm i).2 oa)] at hi
  cases hi
 simp only[this,if_false]
def S7 (f:FuncId):Bool:=Nat.beq f 41
def F7:Fns:=PX S7 F6
theorem q42 {A:Nat->Int}:Env Tryz.prog A tys F7:=jer q41
theorem no7 {f:FuncId} (h1:S1 f=false) (h2:Nat.beq f jgm.f=false) (h3:S3 f=false) (h4:S4 f=false) (h5:S5 f=false) (h6:S6 f=false) (h7:S7 f=false) {h:Hp}:jc1 F7 f vs h=none:=(ja0 h7).trans (no6 h1 h2 h3 h4 h5 h6)
theorem qz6 {f:FuncId} (h4:S4 f=false) (h5:S5 f=false) (h6:S6 f=false) (h7:S7 f=false) {h:Hp}:jc1 F7 f vs h=jc1 F3 f vs h:=(ja0 h7).trans ((ja0 h6).trans ((ja0 h5).trans (ja0 h4)))
section
variable {h:Hp} {f:Fc} {m:Nat×Nat} {Q:AV->Hp->Prop}
theorem qtc (k:FcOk m f) (m1:2<=m.1/\m.1<=10) (m2:2<=m.2/\m.2<=10):jc1 F7 41 [.agg (Zk f),.agg [si m.1,si m.2]] h=some (vi (jl2 f),h) :=
 jbg rfl (by simp only[jaw,ja5,jbi,jdu,ja7,jbj,jbd,jbt,jbu,jbl,if_true]) (qn4 jdv k m1 m2)
end
section
variable {α:Type}
def Gs (lo:Nat) (h:Hp) (ty sz:Nat) (E:List SV->α->List Nat->Prop) (x:SV) (l:List α):Prop :=
 ∃ ns,Sl h ty sz false E x l ns/\ns.Nodup/\∀ n∈ns,lo<=n/\n<h.next
variable {lo ty sz:Nat} {E:List SV->α->List Nat->Prop} {h h':Hp} {x:SV} {l:List α}
theorem Gs.nil:Gs lo h ty sz E .nilSlice []:=⟨[],.nil,.nil,se⟩
theorem Gs.len (k:Gs lo h ty sz E x l):jsn (.s x)=some (vi l.length):=by
 obtain⟨ns,k,_⟩:=k
 exact k.len
theorem jww:∀ {L:List (List SV)},(∀ r∈L,r.length=sz)->jx2 sz L=some L.flatten
 | [],_=>rfl
 | a::L,hr=>by
  have e :=jww fun r h=>hr r (f01 _ h)
  show oif (Nat.beq (jb6 a) sz) (ob (jx2 sz L) fun r=>some (jf8 a r)) none=_
  rw[e,show Nat.beq (jb6 a) sz=true by grind[jba,f1w]]
  show some (jf8 a L.flatten)=_
  rw[jcv];rfl
end
def OX (h:Hp) (row:List SV) (x:Ms.Ins) (ns:List Nat):Prop:=∃ a b n1 n2 ex,row=[si x.op,a,b]/\Sl h tt.opd 5 ex EO a x.ops n1/\Sl h tt.reg 2 false ER b x.spoils n2/\ns=n1++n2
def OE (h:Hp) (row:List SV) (e:Ms.Edg) (ns:List Nat):Prop:=∃ a,row=[si e.block,a]/\Sl h tt.int 1 false EI a e.args ns
def OB (h:Hp) (row:List SV) (b:Blk) (ns:List Nat):Prop:=∃ p i e n1 n2 n3 ex,row=[p,i,e]/\Sl h tt.int 1 false EI p b.params n1/\Sl h tt.ins 3 false (OX h) i b.instrs n2/\Sl h tt.edg 2 ex (OE h) e b.edges n3/\ns=n1++(n2++n3)
section
variable {h h':Hp}
theorem OE.keep {x:Ms.Edg} (k:OE h row x ns) (hk:∀ n∈ns,h'.get n=h.get n):OE h' row x ns:=by
 obtain⟨a,e,h1⟩:=k
 exact⟨a,e,h1.keep hk⟩
theorem OX.keep {x:Ms.Ins} (k:OX h row x ns) (hk:∀ n∈ns,h'.get n=h.get n):OX h' row x ns:=by
 obtain⟨a,b,n1,n2,ex,e,h1,h2,rfl⟩:=k
 exact⟨a,b,n1,n2,ex,e,h1.keep fun n hn=>hk n (by grind),h2.keep fun n hn=>hk n (by grind),rfl⟩
theorem OB.keep {x:Blk} (k:OB h row x ns) (hk:∀ n∈ns,h'.get n=h.get n):OB h' row x ns:=by
 obtain⟨p,i,e,n1,n2,n3,ex,e1,h1,h2,h3,rfl⟩:=k
 exact⟨p,i,e,n1,n2,n3,ex,e1,h1.keep fun n hn=>hk n (by grind),h2.imp (fun n hn=>hk n (by grind)) fun row a ms hm k=>k.keep fun n hn=>hk n (by grind),h3.imp (fun n hn=>hk n (by grind)) fun row a ms hm k=>k.keep fun n hn=>hk n (by grind),rfl⟩
variable {d:Nat} {k:Bool}
theorem OE.frz {x:Ms.Edg} (e:OE h row x ms):jgb (jfl k h (d+2)) row=some (jeo x):=by
 obtain⟨a,rfl,h1⟩:=e
 exact jau rfl (jau (h1.frz (fun _ _ _ e=>EI.frz e) fun _=>rfl) rfl)
theorem OX.frz {x:Ms.Ins} (e:OX h row x ms):jgb (jfl k h (d+2)) row=some (jdd x):=by
 obtain⟨a,b,n1,n2,ex,rfl,h1,h2,rfl⟩:=e
 exact jau rfl (jau (h1.frz (fun _ _ _ e=>EO.frz e) fun _=>rfl) (jau (h2.frz (fun _ _ _ e=>ER.frz e) fun _=>rfl) rfl))
theorem OB.frz {x:Ms.Blk} (e:OB h row x ms):jgb (jfl k h (d+3)) row=some (ja6 x):=by
 obtain⟨p,i,e,n1,n2,n3,ex,rfl,h1,h2,h3,rfl⟩:=e
 exact jau (h1.frz (fun _ _ _ e=>EI.frz e) fun _=>rfl) (jau (h2.frz (fun _ _ _ e=>OX.frz e) fun _=>rfl) (jau (h3.frz (fun _ _ _ e=>OE.frz e) fun _=>rfl) rfl))
structure OF (h:Hp) (x:AV) (f:Fc) (na nb:List Nat):Prop where
 ex:∃ a b,x=.agg [a,b]/\Sl h tt.int 1 false EI a f.values na/\Sl h tt.blk 3 false (OB h) b f.blocks nb
 nd:(na++nb).Nodup
 lt:∀ n∈na++nb,1<=n/\n<h.next
theorem OF.keep {x:AV} {f:Fc} {na nb:List Nat} (o:OF h x f na nb) (hk:∀ n∈na++nb,h'.get n=h.get n) (hn:h.next<=h'.next):OF h' x f na nb:=by
 obtain⟨⟨a,b,rfl,h1,h2⟩,nd,lt⟩:=o
 exact⟨⟨a,b,rfl,h1.keep fun n hn=>hk n (by grind),h2.imp (fun n hn=>hk n (by grind)) fun row a ms hm k=>k.keep fun n hn=>hk n (by grind)⟩,nd,fun n hm=>by grind⟩
end
end
end Go.Proofs.YtkpadfebkaangaaGreatDoor.Ev
namespace Go.Proofs.YtkpadfebkaangaaGreatDoor.Ms
set_option linter.all false
def j5w (g:List (List Nat)) (b:Bool):List (List Nat) :=
 let a:=g.length
 match b with
 | false=>g.modify (a - 1) (·++[a,a+1])++[[a+2],[a+2],[]]
 | true=>g.modify (a - 1) (·++[a])++[[a+1,a+2],[a],[]]
def gS (s:List Bool):List (List Nat):=s.foldl j5w [[]]
def qau:List Bool->Nat->List Nat
 | [],c=>[c]
 | false::s,c=>c::(c+2)::(c+1)::qau s (c+3)
 | true::s,c=>c::(c+1)::(qau s (c+3)++[c+2])
def jl3:List Bool->Nat->List Int
 | [],_=>[]
 | false::s,c=>(c:Int)::c::c::jl3 s (c+3)
 | true::s,c=>(c:Int)::(c+1:Nat)::(c+1:Nat)::jl3 s (c+3)
def jhe (s:List Bool):List Int:=-1::jl3 s 0
def qtd (g:List (List Nat)) (b:Nat):Nat->List Nat
 | 0=>[]
 | k+1=>qtd g b k++((g.getD k []).filter (fun x=>x == b)).map (fun _=>k)
def j5x (g:List (List Nat)):List (List Nat):=(List.range g.length).map (fun b=>qtd g b g.length)
end Go.Proofs.YtkpadfebkaangaaGreatDoor.Ms
namespace Go.Proofs.YtkpadfebkaangaaGreatDoor.Ev
open Go Go.RowKit Go.Proofs.YtkpadfebkaangaaGreatDoor.Ms
set_option linter.all false
set_option maxRecDepth 100000
def qu1 (a:Nat->SV):Nat->List Nat->List (List SV)
 | _,[]=>[]
 | j,t::es=>[si t,a j]::qu1 a (j+1) es
def qu2 (a:Nat->SV):List Nat->SV
 | []=>.nilSlice
 | t::es=>.lst (qu1 a 0 (t::es))
def qav (ps is:Nat->SV) (ags:Nat->Nat->SV):Nat->List (List Nat)->List (List SV)
 | _,[]=>[]
 | k,es::g=>[ps k,is k,qu2 (ags k) es]::qav ps is ags (k+1) g
def qu3 (g:List (List Nat)) (v:SV) (ps is:Nat->SV) (ags:Nat->Nat->SV):List SV:=[v,.lst (qav ps is ags 0 g)]
def jhf (n:Int):List SV:=[si n]
def jqw (l:List Nat):List SV:=[jaf jav l]
noncomputable def qu4 (fn:FuncId) (extra:List AV) (g:List (List Nat)) (v:SV) (ps is:Nat->SV) (ags:Nat->Nat->SV):Option AV :=
 ob (jn2 F7 3000 fn (.agg (qu3 g v ps is ags)::extra) h0) (fun p=>jf9 true p.2 9 p.1)
theorem jpy {fn:FuncId} {extra:List AV} {g:List (List Nat)} {v:SV} {ps is:Nat->SV} {ags:Nat->Nat->SV} {u:AV} (h:qu4 fn extra g v ps is ags=some u):ji7 true F7 fn (.agg (qu3 g v ps is ags)::extra) u:=by
 obtain⟨p,h1,h2⟩:=jaa.1 h
 exact⟨3000,p.1,p.2,h1,9,h2⟩
def oG (s:List Bool):Prop:=∀ (v:SV) (ps is:Nat->SV) (ags:Nat->Nat->SV),qu4 42 [] (gS s) v ps is ags=some (.s (jaf jav (qau s 0)))
def nG (s:List Bool):Prop:=∀ (v:SV) (ps is:Nat->SV) (ags:Nat->Nat->SV),qu4 43 [] (gS s) v ps is ags=some (.s (jaf jqw (j5x (gS s))))
def iG (s:List Bool):Prop:=∀ (v:SV) (ps is:Nat->SV) (ags:Nat->Nat->SV),qu4 45 [.s (jaf jav (qau s 0))] (gS s) v ps is ags=some (.s (jaf jhf (jhe s)))
end Go.Proofs.YtkpadfebkaangaaGreatDoor.Ev
