/- Code of the checks: one text for both chains. -/
import Derived.Test.YtkplfnkgodnmaaaSb
import Derived.WalkKit
namespace Go.Proofs.Ytkplfnkgodnmaaa.Ev
open Go Go.RowKit
set_option linter.all false
set_option maxRecDepth 100000
variable {i j k m v z p0:Nat}
def jrb:IC:=.seq (.block 5 (qr [qP (.ixs 5 (.g 19) (.g 22)),qK 5,qB 18 (.new 92 [.int .i64 0,.int .i64 0,.bool false,.int .i64 0,.int .i64 0]),qA (.store 5 qa qb)] (qr [qF 0 18,qL,qP (.bin .eq qa (qC 1)),qP (.mv qa),qR 0 true (.mv (.g 1)),qR 1 true (.mv (.g 17)),qR 2 true (.fld 1 (.g 18)),qS 3 true (.load 1 false qa),qR 4 true (.ixs 2 qc qa),qS 5 true (.load 2 true qa),qR 6 true (.mv (.g 16)),qR 7 true (.mv (.g 15)),qR 8 true (.build [.int .i64 0,.int .i64 0] [(0,(1,qb)),(1,(1,qa))]),qS 9 true (.call 57 [.l 8,qd,qa]),qR 10 true (.not qa),qQ 14 (.pick (.l 11) qa (.c (.s (.bool false))))] (.cond (.g 14) (qr [qQ 2 (.mv (.c (.s (.bool false))))] .ret) .skip)))) (.region [qI 22,qT 22])
def jh9:IC:=qr [qQ 20 (.bin .lt (.g 22) (.g 21))] (.seq (qX 20 4) jrb)
def jrc:IC:=.seq (.block 3 (qr [qM 27,qP (.ixs 3 (.g 24) (.g 27)),qK 3,qB 23 (.new 73 [.int .i64 0,.nilSlice,.nilSlice]),qQ 15 (.mv qd),qA (.store 3 qb qc)] (qr [qF 1 23,qB 19 (.load 1 false qa),qQ 21 (.len qa),qQ 22 (.mv (qC 0))] (.block 4 (.loop jh9))))) (.region [qI 27,qT 27])
def jia:IC:=qr [qQ 25 (.bin .lt (.g 27) (.g 26))] (.seq (qX 25 2) jrc)
def jrd:IC:=.draw [(qM 1,.none),(qM 17,.none),(qM 4,.none),(qP (.ixs 2 qb qa),.none),(qK 2,.some []),(qM 16,.none),(qF 1 28,.none),(qL,.some [2]),(qP (.len qa),.none),(qP (.build [.int .i64 0,.int .i64 0] [(0,(1,qd)),(1,(1,qa))]),.none),(qA (.call 57 [.l 9,.l 5,qa]),.none),(qQ 3 (.not qa),.none)]
def jre:IC:=.seq (.block 9 (qr [qP (.ixs 1 (.g 5) (.g 8)),qL,qT 4] (.seq jrd (.cond (.g 3) (qr [qQ 2 (.mv (.c (.s (.bool false))))] .ret) .skip)))) (.region [qI 8,qT 8])
def jib:IC:=qr [qQ 6 (.bin .lt (.g 8) (.g 7))] (.seq (qX 6 8) jre)
def jrf:IC:=.seq (.block 7 (qr [qP (.ixs 2 (.g 10) (.g 13)),qK 2,qB 9 (.new 76 [.int .i64 0,.nilSlice]),qA (.store 2 qa qb)] (qr [qF 1 9,qB 5 (.load 1 false qa),qQ 7 (.len qa),qQ 8 (.mv (qC 0))] (.block 8 (.loop jib))))) (.region [qI 13,qT 13])
def jic:IC:=qr [qQ 11 (.bin .lt (.g 13) (.g 12))] (.seq (qX 11 6) jrf)
def jrg:IC:=.seq (.block 1 (qr [qM 32,qP (.ixs 3 (.g 29) (.g 32)),qK 3,qB 28 (.new 54 [.nilSlice,.nilSlice,.nilSlice]),qQ 16 (.mv qd),qA (.store 3 qb qc)] (.seq (qr [qF 1 28,qB 24 (.load 1 false qa),qQ 26 (.len qa),qQ 27 (.mv (qC 0))] (.block 2 (.loop jia))) (qr [qF 2 28,qB 10 (.load 1 false qa),qQ 12 (.len qa),qQ 13 (.mv (qC 0))] (.block 6 (.loop jic)))))) (.region [qI 32,qT 32])
def jid:IC:=qr [qQ 30 (.bin .lt (.g 32) (.g 31))] (.seq (qX 30 0) jrg)
def jvi:IC:=qr [qB 33 (.box 29 (.g 0)),qQ 2 (.mv (.c (.s (.bool false))))] (qr [qA (.load 2 true (.g 33)),qA (.call 56 [qa]),qT 17] (.seq (qr [qF 1 33,qB 29 (.load 1 false qa),qQ 31 (.len qa),qQ 32 (.mv (qC 0))] (.block 0 (.loop jid))) (qr [qQ 2 (.mv (.c (.s (.bool true))))] .ret)))
theorem qd0:T 37=some (.mk jvi 2 32 [(.tmp 2)]):=by kernel_rfl
def jrh:IC:=qr [qM 0,qF 0 6,qL,qF 0 5,qL,qA (.call 63 [.l 4,qc,qa]),qT 3] .ret
def jvj:IC:=qr [qB 6 (.box 111 (.g 1)),qB 5 (.box 111 (.g 2)),qQ 3 (.mv (.c (.s (.bool false))))] (.seq (qr [qF 0 6,qL,qF 0 5,qL,qQ 4 (.bin .eq qc qa)] (.cond (.g 4) (qr [qF 1 6,qL,qF 1 5,qL,qP (.bin .lt qc qa),qT 3] .ret) .skip)) jrh)
theorem qd1:T 57=some (.mk jvj 3 4 [(.tmp 3)]):=by kernel_rfl
def jl7:IC:=.seq (qr [qM 2,qP (.bin .ge qa (qC 0)),qP (.mv qa),qR 0 true (.mv (.g 2)),qR 1 true (.mv (.g 1)),qR 2 true (.bin .ne qb qa),qQ 4 (.pick qd qa (.c (.s (.bool false))))] (qX 4 0)) (.block 1 (.region [qM 0,qM 2,qP (.ixs 1 qb qa),qL,qT 2]))
def j9s:IC:=qr [qQ 3 (.mv (.c (.s (.bool false))))] (.seq (.block 0 (.loop jl7)) (qr [qM 2,qM 1,qP (.bin .eq qb qa),qT 3] .ret))
theorem qlh:T 63=some (.mk j9s 3 2 [(.tmp 3)]):=by kernel_rfl
def j2v:IC:=.seq (.block 3 (qr [qP (.ixs 1 (.g 17) (.g 20)),qL,qT 15] (.region [qM 16,qM 15,qM 14,qP (.build [.int .i64 0,.int .i64 0] [(0,(1,qa)),(1,(1,qC (-1)))]),qP (.ixs 2 qd qc),qA (.store 2 qa qb)]))) (.region [qI 20,qT 20])
def jo3:IC:=qr [qQ 18 (.bin .lt (.g 20) (.g 19))] (.seq (qX 18 2) j2v)
def j2w:IC:=.seq (.block 7 (qr [qP (.ixs 5 (.g 5) (.g 8)),qK 5,qB 4 (.new 92 [.int .i64 0,.int .i64 0,.bool false,.int .i64 0,.int .i64 0]),qA (.store 5 qa qb)] (qr [qF 0 4,qL,qQ 3 (.bin .eq qa (qC 2))] (.cond (.g 3) (.region [qM 16,qF 1 4,qL,qM 14,qM 2,qP (.build [.int .i64 0,.int .i64 0] [(0,(1,qb)),(1,(1,qa))]),qP (.ixs 2 (.l 5) qd),qA (.store 2 qa qb)]) .skip)))) (.region [qI 8,qT 8])
def jo4:IC:=qr [qQ 6 (.bin .lt (.g 8) (.g 7))] (.seq (qX 6 6) j2w)
def j2x:IC:=.seq (.block 5 (qr [qM 13,qP (.ixs 3 (.g 10) (.g 13)),qK 3,qB 9 (.new 73 [.int .i64 0,.nilSlice,.nilSlice]),qQ 2 (.mv qd),qA (.store 3 qb qc)] (qr [qF 1 9,qB 5 (.load 1 false qa),qQ 7 (.len qa),qQ 8 (.mv (qC 0))] (.block 6 (.loop jo4))))) (.region [qI 13,qT 13])
def jo5:IC:=qr [qQ 11 (.bin .lt (.g 13) (.g 12))] (.seq (qX 11 4) j2x)
def j2y:IC:=.seq (.block 1 (qr [qM 25,qP (.ixs 3 (.g 22) (.g 25)),qK 3,qB 21 (.new 54 [.nilSlice,.nilSlice,.nilSlice]),qQ 14 (.mv qd),qA (.store 3 qb qc)] (.seq (qr [qF 0 21,qB 17 (.load 1 false qa),qQ 19 (.len qa),qQ 20 (.mv (qC 0))] (.block 2 (.loop jo3))) (qr [qF 1 21,qB 10 (.load 1 false qa),qQ 12 (.len qa),qQ 13 (.mv (qC 0))] (.block 4 (.loop jo5)))))) (.region [qI 25,qT 25])
def jo6:IC:=qr [qQ 23 (.bin .lt (.g 25) (.g 24))] (.seq (qX 23 0) j2y)
def j9t:IC:=qr [qB 26 (.box 29 (.g 0)),qQ 1 (.mv (.c (.s .nilSlice)))] (qr [qF 0 26,qL,qP (.len qa),qA (.mkslice 111 2 16 [.int .i64 0,.int .i64 0] qa qa),qT 16] (.seq (qr [qF 1 26,qB 22 (.load 1 false qa),qQ 24 (.len qa),qQ 25 (.mv (qC 0))] (.block 0 (.loop jo6))) (qr [qM 16,qT 1] .ret)))
theorem qli:T 56=some (.mk j9t 1 26 [(.tmp 1)]):=by kernel_rfl
def jri:IC:=.draw [(qA (.load 2 true (.g 20)),.some []),(qA (.call 35 [qa]),.some []),(qP (.len qa),.none),(qF 1 20,.none),(qL,.some [2,3]),(qP (.len qa),.none),(qQ 16 (.bin .lt qd qa),.none)]
def jrj:IC:=.seq (.block 3 (qr [qP (.ixs 2 (.g 7) (.g 10)),qK 2,qB 5 (.new 76 [.int .i64 0,.nilSlice]),qA (.store 2 qa qb)] (qr [qF 2 11,qL,qP (.len qa),qP (.bin .gt qa (qC 1)),qP (.mv qa),qR 0 true (.mv (.g 6)),qR 1 true (.fld 0 (.g 5)),qS 2 true (.load 1 false qa),qR 3 true (.ixs 1 qc qa),qS 4 true (.load 1 false qa),qR 5 true (.len qa),qR 6 true (.bin .gt qa (qC 1)),qQ 4 (.pick (.l 7) qa (.c (.s (.bool false))))] (.cond (.g 4) (qr [qQ 2 (.mv (qC 11))] .ret) .skip)))) (.region [qI 10,qT 10])
def jie:IC:=qr [qQ 8 (.bin .lt (.g 10) (.g 9))] (.seq (qX 8 2) jrj)
def jrk:IC:=.seq (.block 1 (qr [qP (.ixs 3 (.g 12) (.g 15)),qK 3,qB 11 (.new 54 [.nilSlice,.nilSlice,.nilSlice]),qA (.store 3 qa qb)] (qr [qF 2 11,qB 7 (.load 1 false qa),qQ 9 (.len qa),qQ 10 (.mv (qC 0))] (.block 2 (.loop jie))))) (.region [qI 15,qT 15])
def jif:IC:=qr [qQ 13 (.bin .lt (.g 15) (.g 14))] (.seq (qX 13 0) jrk)
def jrl:IC:=.draw [(qA (.load 2 true (.g 20)),.some []),(qA (.load 2 true (.g 20)),.some [0]),(qA (.load 2 true (.g 20)),.some [0,1]),(qA (.call 35 [qa]),.some [1,2]),(qA (.call 38 [qc,qa]),.some [3]),(qA (.call 37 [.l 4,qa]),.none),(qQ 3 (.not qa),.none)]
def jrm:IC:=qr [qQ 2 (.mv (qC 0))] .ret
def jrn:IC:=qr [qA (.load 2 true (.g 20)),qA (.call 36 [qa]),qT 6] (.seq (qr [qF 1 20,qB 12 (.load 1 false qa),qQ 14 (.len qa),qQ 15 (.mv (qC 0))] (.block 0 (.loop jif))) (.seq (.seq jrl (.cond (.g 3) (qr [qQ 2 (.mv (qC 10))] .ret) .skip)) jrm))
def jro:IC:=.seq (.seq jri (.cond (.g 16) (qr [qQ 2 (.mv (qC 16))] .ret) .skip)) jrn
def jvk:IC:=qr [qB 20 (.box 29 (.g 0)),qB 19 (.box 25 (.g 1)),qQ 2 (.mv (qC 0))] (.seq (qr [qA (.load 2 true (.g 20)),qA (.load 2 true (.g 19)),qA (.call 34 [qb,qa]),qT 18] (qr [qM 18,qQ 17 (.bin .ne qa (qC 0))] (.cond (.g 17) (qr [qM 18,qT 2] .ret) .skip))) jro)
theorem qd2:T 12=some (.mk jvk 2 19 [(.tmp 2)]):=by kernel_rfl
def j2z:IC:=qr [qB 5 (.box 29 (.g 0)),qQ 1 (.mv (.c (.s .nilSlice)))] (qr [qF 1 5,qL,qP (.len qa),qA (.mkslice 4 1 1 [.bool false] qa qa),qB 4 (.new 106 [.nilSlice]),qA (.store 1 qa qb)] (qr [qB 2 (.new 26 [.nilSlice])] (qr [qB 3 (.new 68 [.nilFunc])] (qr [qP (.mkfun 54 [.g 4,.g 5,.g 3,.g 2]),qA (.store 1 (.g 3) qa)] (qr [qA (.load 1 false (.g 3)),qA (.callv qa [qC 0])] (qr [qA (.load 1 false (.g 2)),qA (.call 55 [qa])] (qr [qA (.load 1 false (.g 2)),qT 1] .ret)))))))
theorem qh4:T 35=some (.mk j2z 1 5 [(.tmp 1)]):=by kernel_rfl
def j20:IC:=.seq (.block 1 (qr [qP (.ixs 2 (.g 7) (.g 10)),qK 2,qB 6 (.new 76 [.int .i64 0,.nilSlice]),qA (.store 2 qa qb)] (qr [qA (.load 1 false (.g 1)),qF 0 6,qL,qP (.ixs 1 qc qa),qL,qQ 5 (.not qa)] (.cond (.g 5) (.region [qA (.load 1 false (.g 3)),qF 0 6,qL,qA (.callv qc [qa])]) .skip)))) (.region [qI 10,qT 10])
def jo7:IC:=qr [qQ 8 (.bin .lt (.g 10) (.g 9))] (.seq (qX 8 0) j20)
def j9u:IC:=qr [qA (.load 1 false (.g 1)),qM 0,qP (.ixs 1 qb qa),qA (.store 1 qa (.c (.s (.bool true))))] (.seq (qr [qF 1 2,qL,qM 0,qP (.ixs 3 qb qa),qG 2,qB 7 (.load 1 false qa),qQ 9 (.len qa),qQ 10 (.mv (qC 0))] (.block 0 (.loop jo7))) (.region [qA (.load 1 false (.g 4)),qM 0,qA (.bslice 3 1 [.int .i64 0] 1 [(0,(1,qa))]),qA (.app 3 1 8 qc qa),qA (.store 1 (.g 4) qa)]))
theorem qlj:T 54=some (.mk j9u 5 6 []):=by kernel_rfl
def jvl:IC:=.seq (.block 3 (qr [qP (.ixs 2 (.g 5) (.g 8)),qK 2,qB 3 (.new 76 [.int .i64 0,.nilSlice]),qA (.store 2 qa qb)] (.draw [(qM 4,.none),(qF 0 3,.none),(qL,.some []),(qM 4,.none),(qF 0 3,.none),(qL,.some [2]),(qP (.ixs 1 qc qa),.none),(qL,.some [4]),(qM 2,.none),(qA (.bslice 3 1 [.int .i64 0] 1 [(0,(1,qa))]),.some [1,3,6]),(qA (.app 3 1 8 qc qa),.some [7]),(qP (.ixs 1 (.l 10) (.l 8)),.none),(qA (.store 1 qa qb),.none)]))) (.region [qI 8,qT 8])
def jig:IC:=qr [qQ 6 (.bin .lt (.g 8) (.g 7))] (.seq (qX 6 2) jvl)
def jvm:IC:=.seq (.block 1 (qr [qM 13,qP (.ixs 3 (.g 10) (.g 13)),qK 3,qB 9 (.new 54 [.nilSlice,.nilSlice,.nilSlice]),qQ 2 (.mv qd),qA (.store 3 qb qc)] (qr [qF 2 9,qB 5 (.load 1 false qa),qQ 7 (.len qa),qQ 8 (.mv (qC 0))] (.block 2 (.loop jig))))) (.region [qI 13,qT 13])
def jkg:IC:=qr [qQ 11 (.bin .lt (.g 13) (.g 12))] (.seq (qX 11 0) jvm)
def j21:IC:=qr [qB 14 (.box 29 (.g 0)),qQ 1 (.mv (.c (.s .nilSlice)))] (qr [qF 1 14,qL,qP (.len qa),qA (.mkslice 26 1 24 [.nilSlice] qa qa),qT 4] (.seq (qr [qF 1 14,qB 10 (.load 1 false qa),qQ 12 (.len qa),qQ 13 (.mv (qC 0))] (.block 0 (.loop jkg))) (qr [qM 4,qT 1] .ret)))
theorem qh5:T 36=some (.mk j21 1 14 [(.tmp 1)]):=by kernel_rfl
def j22:IC:=.seq (.block 1 (qr [qM 28,qP (.ixs 1 (.g 25) (.g 28)),qL,qQ 22 (.mv qc),qQ 23 (.mv qb)] (.region [qA (.load 1 false (.g 24)),qM 23,qM 22,qP (.ixs 1 qc qb),qA (.store 1 qa qb)]))) (.region [qI 28,qT 28])
def jo8:IC:=qr [qQ 26 (.bin .lt (.g 28) (.g 27))] (.seq (qX 26 0) j22)
def j23:IC:=.seq (.block 7 (qr [qP (.ixs 1 (.g 9) (.g 12)),qL,qT 8] (.block 8 (qr [qA (.load 1 false (.g 21)),qM 8,qP (.ixs 1 qb qa),qL,qP (.bin .lt qa (qC 0)),qT 7] (.cond (.g 7) .skip (qr [qM 6,qP (.bin .lt qa (qC 0)),qT 5] (.cond (.g 5) (.region [qM 8,qT 6]) (.region [qM 4,qM 8,qM 6,qA (.callv qc [qb,qa]),qT 6])))))))) (.region [qI 12,qT 12])
def jo9:IC:=qr [qQ 10 (.bin .lt (.g 12) (.g 11))] (.seq (qX 10 6) j23)
def j24:IC:=.seq (.block 5 (qr [qP (.ixs 1 (.g 15) (.g 18)),qL,qT 13] (qr [qQ 6 (.mv (qC (-1)))] (.seq (qr [qM 14,qM 13,qP (.ixs 1 qb qa),qB 9 (.load 1 false qa),qQ 11 (.len qa),qQ 12 (.mv (qC 0))] (.block 6 (.loop jo9))) (qr [qA (.load 1 false (.g 21)),qM 13,qP (.ixs 1 qb qa),qL,qM 6,qQ 3 (.bin .ne qb qa)] (.cond (.g 3) (.region [qA (.load 1 false (.g 21)),qM 13,qM 6,qP (.ixs 1 qc qb),qA (.store 1 qa qb),qQ 20 (.mv (.c (.s (.bool true))))]) .skip)))))) (.region [qI 18,qT 18])
def jpa:IC:=qr [qQ 16 (.bin .lt (.g 18) (.g 17))] (.seq (qX 16 4) j24)
def j25:IC:=.block 3 (qr [qQ 20 (.mv (.c (.s (.bool false))))] (qr [qM 1,qQ 15 (.slice 1 qa (.some (qC 1)) .none),qQ 17 (.len qa),qQ 18 (.mv (qC 0))] (.block 4 (.loop jpa))))
def jpb:IC:=.seq (qr [qQ 19 (.mv (.g 20))] (qX 19 2)) j25
def j9v:IC:=qr [qB 29 (.box 29 (.g 0)),qQ 2 (.mv (.c (.s .nilSlice)))] (qr [qF 1 29,qL,qP (.len qa),qA (.mkslice 3 1 8 [.int .i64 0] qa qa),qB 24 (.new 26 [.nilSlice]),qA (.store 1 qa qb)] (.seq (qr [qQ 25 (.mv (.g 1)),qQ 27 (.len qa),qQ 28 (.mv (qC 0))] (.block 0 (.loop jo8))) (qr [qA (.bslice 3 1 [.int .i64 0] 1 [(0,(1,qC (-1)))]),qF 1 29,qL,qP (.len qa),qA (.call 58 [qd,qa]),qB 21 (.new 26 [.nilSlice]),qA (.store 1 qa qb)] (qr [qA (.load 1 false (.g 21)),qP (.ixs 1 qa (qC 0)),qA (.store 1 qa (qC 0))] (qr [qP (.mkfun 59 [.g 24,.g 21]),qT 4] (qr [qA (.load 2 true (.g 29)),qA (.call 36 [qa]),qT 14] (.seq (qr [qQ 20 (.mv (.c (.s (.bool true))))] (.block 2 (.loop jpb))) (qr [qA (.load 1 false (.g 21)),qP (.ixs 1 qa (qC 0)),qA (.store 1 qa (qC (-1)))] (qr [qA (.load 1 false (.g 21)),qT 2] .ret)))))))))
theorem qlk:T 38=some (.mk j9v 2 28 [(.tmp 2)]):=by kernel_rfl
def j9w:IC:=.block 3 (.region [qA (.load 1 false (.g 3)),qM 0,qP (.ixs 1 qb qa),qL,qT 0])
def jvn:IC:=.seq (.seq (.draw [(qA (.load 1 false (.g 2)),.some []),(qM 0,.none),(qP (.ixs 1 qb qa),.none),(qL,.some []),(qA (.load 1 false (.g 2)),.some [0,3]),(qM 1,.none),(qP (.ixs 1 qb qa),.none),(qL,.some [3,6]),(qQ 6 (.bin .gt (.l 4) qa),.none)]) (qX 6 2)) j9w
def j9x:IC:=.block 5 (.region [qA (.load 1 false (.g 3)),qM 1,qP (.ixs 1 qb qa),qL,qT 1])
def jvo:IC:=.seq (.seq (.draw [(qA (.load 1 false (.g 2)),.some []),(qM 1,.none),(qP (.ixs 1 qb qa),.none),(qL,.some []),(qA (.load 1 false (.g 2)),.some [0,3]),(qM 0,.none),(qP (.ixs 1 qb qa),.none),(qL,.some [3,6]),(qQ 5 (.bin .gt (.l 4) qa),.none)]) (qX 5 4)) j9x
def j9y:IC:=.block 1 (.seq (.block 2 (.loop jvn)) (.block 4 (.loop jvo)))
def jvp:IC:=.seq (qr [qM 0,qM 1,qQ 7 (.bin .ne qb qa)] (qX 7 0)) j9y
def qh6:IC:=qr [qQ 4 (.mv (qC 0))] (.seq (.block 0 (.loop jvp)) (qr [qM 0,qT 4] .ret))
theorem qnt:T 59=some (.mk qh6 4 4 [(.tmp 4)]):=by kernel_rfl
def j26:IC:=.seq (.block 1 (.draw [(qM 0,.none),(qM 3,.none),(qM 0,.none),(qM 2,.none),(qM 0,.none),(qM 2,.none),(qP (.ixs 1 qb qa),.none),(qL,.some []),(qM 0,.none),(qM 3,.none),(qP (.ixs 1 qb qa),.none),(qL,.some [3]),(qP (.ixs 1 (.l 11) (.l 10)),.none),(qA (.store 1 qa (.l 5)),.none),(qP (.ixs 1 (.l 11) (.l 10)),.none),(qA (.store 1 qa qd),.none)])) (.region [qM 3,qP (.bin .add qa (qC 1)),qM 2,qP (.bin .sub qa (qC 1)),qQ 3 (.mv qc),qQ 2 (.mv qb)])
def jpc:IC:=.seq (qr [qM 3,qM 2,qQ 1 (.bin .lt qb qa)] (qX 1 0)) j26
def j9z:IC:=qr [qM 0,qP (.len qa),qP (.bin .sub qa (qC 1)),qQ 3 (.mv (qC 0)),qQ 2 (.mv qb)] (.block 0 (.loop jpc))
theorem qll:T 55=some (.mk j9z 1 3 []):=by kernel_rfl
def j27:IC:=.block 1 (.draw [(qM 4,.none),(qM 5,.none),(qM 4,.none),(qP (.slice 1 qb (.some qa) .none),.none),(qM 5,.none),(qM 4,.none),(qP (.slice 1 qb .none (.some qa)),.none),(qA (.copy 1 qd qa),.none),(qP (.bin .add (.l 7) qa),.none),(qT 4,.none)])
def jpd:IC:=.seq (qr [qM 4,qM 5,qP (.len qa),qQ 3 (.bin .lt qc qa)] (qX 3 0)) j27
def j28:IC:=qr [qM 7,qP (.conv .i64 qa),qA (.mkslice 3 1 8 [.int .i64 0] qa qa),qT 5] (qr [qM 5,qM 0,qA (.copy 1 qb qa),qT 4] (.seq (.block 0 (.loop jpd)) (qr [qM 5,qT 2] .ret)))
def j29:IC:=qr [qM 0,qP (.len qa),qP (.conv .u64 qa),qM 1,qP (.conv .u64 qa),qA (.call 73 [qc,qa]),qP (.mv qa),qP (.ext 0 qa),qP (.ext 1 qb),qQ 8 (.mv qb),qQ 7 (.mv qb)] (.seq (qr [qM 8,qP (.bin .gt qa (.c (.s (.int .u64 0)))),qP (.mv qa),qR 0 false (.mv (.g 7)),qR 1 false (.bin .gt qa (.c (.s (.int .u64 9223372036854775807)))),qQ 6 (.pick qc (.c (.s (.bool true))) qa)] (.cond (.g 6) (.region [qA .bad,qA .bad]) .skip)) j28)
def j90:IC:=qr [qQ 2 (.mv (.c (.s .nilSlice)))] (.seq (qr [qM 1,qQ 9 (.bin .lt qa (qC 0))] (.cond (.g 9) (.region [qA .bad,qA .bad]) .skip)) j29)
theorem qlm:T 58=some (.mk j90 2 8 [(.tmp 2)]):=by kernel_rfl
structure DomOk (n:Nat) (D:Nat->Option Nat):Prop where
 root:D 0=some 0
 lt:∀ i j,0<i->D i=some j->j<i
 up:∀ i j,0<i->D i=some j->D j≠none
inductive Anc (D:Nat->Option Nat):Nat->Nat->Prop where
 | self (i:Nat):Anc D i i
 | up {i j z:Nat}:0<i->D i=some j->Anc D j z->Anc D i z
section
variable {n:Nat} {D:Nat->Option Nat}
theorem Anc.le (k:DomOk n D) (h:Anc D i z):z<=i:=by
 induction h with
 | self i=>exact f0d i
 | up h1 h2 _ ih=>exact f0w ih (Nat.le_of_lt (k.lt _ _ h1 h2))
theorem Anc.cases (h:Anc D i z):z=i∨∃ j,0<i/\D i=some j/\Anc D j z:=by
 cases h with
 | self=>exact .inl rfl
 | up h1 h2 h3=>exact .inr ⟨_,h1,h2,h3⟩
theorem Anc.dn (k:DomOk n D) (h0:0<i) (hj:D i=some j) (hz:z<i):Anc D i z↔Anc D j z:=by
 constructor
 .intro h
  rcases h.cases with rfl | ⟨j',_,h2,h3⟩
  .omega
  .rw [hj] at h2;cases h2;exact h3
 .exact Anc.up h0 hj
theorem Anc.known (k:DomOk n D) (hi:D i≠none) (h:Anc D i z):D z≠none:=by
 induction h with
 | self=>exact hi
 | up h1 h2 _ ih=>exact ih (k.up _ _ h1 h2)
theorem Anc.ext (k:DomOk n D) (h:∀ z,Anc D i z↔Anc D j z):i=j :=
 Nat.le_antisymm (((h i).1 (.self i)).le k) (((h j).2 (.self j)).le k)
def jc1 (D:Nat->Option Nat) (a b m:Nat):Prop:=D m≠none/\m<=a/\m<=b/\∀ z,Anc D m z↔(Anc D a z/\Anc D b z)
theorem jc1.same (k:DomOk n D) {a:Nat} (h:D a≠none):jc1 D a a a:=⟨h,f0d _,f0d _,fun z=>⟨fun h=>⟨h,h⟩,fun h=>h.1⟩⟩
theorem jc1.left (k:DomOk n D) {a a' b:Nat} (hab:b<a) (ha:D a=some a') (h:jc1 D a' b m):jc1 D a b m:=by
 obtain⟨h1,h2,h3,h4⟩:=h
 have:=k.lt a a' (by omega) ha
 refine⟨h1,by omega,h3,fun z=>⟨fun hz=>⟨.up (by omega) ha ((h4 z).1 hz).1,((h4 z).1 hz).2⟩,fun⟨hz1,hz2⟩=>(h4 z).2 ⟨?_,hz2⟩⟩⟩
 exact(Anc.dn k (by omega) ha (Nat.lt_of_le_of_lt (hz2.le k) hab)).1 hz1
theorem jc1.right (k:DomOk n D) {a b b':Nat} (hab:a<b) (hb:D b=some b') (h:jc1 D a b' m):jc1 D a b m:=by
 obtain⟨h1,h2,h3,h4⟩:=h
 have:=k.lt b b' (by omega) hb
 refine⟨h1,h2,by omega,fun z=>⟨fun hz=>⟨((h4 z).1 hz).1,.up (by omega) hb ((h4 z).1 hz).2⟩,fun⟨hz1,hz2⟩=>(h4 z).2 ⟨hz1,?_⟩⟩⟩
 exact(Anc.dn k (by omega) hb (Nat.lt_of_le_of_lt (hz1.le k) hab)).1 hz2
inductive Av (P:Nat->List Nat) (z:Nat):Nat->Nat->Prop where
 | root (k:Nat):z≠0->Av P z 0 k
 | fwd {v p k:Nat}:Av P z p k->p∈P v->p<v->v≠z->Av P z v k
 | back {v p k:Nat}:Av P z p k->p∈P v->v≠z->Av P z v (k+1)
theorem Av.up {P:Nat->List Nat} (h:Av P z v k):∀ {k':Nat},k<=k'->Av P z v k':=by
 induction h with
 | root k h=>exact fun _=>.root _ h
 | fwd h1 h2 h3 h4 ih=>exact fun hk=>.fwd (ih hk) h2 h3 h4
 | @back v p k h1 h2 h4 ih =>
  intro k' hk
  obtain⟨q,rfl⟩:∃ q,k'=q+1:=⟨k' - 1,by omega⟩
  exact .back (ih (by omega)) h2 h4
theorem Av.ne {P:Nat->List Nat} (h:Av P z v k):v≠z:=by
 cases h with
 | root k h=>exact fun e=>h e.symm
 | fwd _ _ _ h=>exact h
 | back _ _ h=>exact h
theorem Av.split {P:Nat->List Nat} (h:Av P z v k) (hi:0<i):Av P i v k∨Av P z i k:=by
 induction h with
 | root k h=>exact .inl (.root k (by omega))
 | @fwd v p k h1 h2 h3 h4 ih =>
  by_cases e:v=i
  .subst e;exact .inr (.fwd h1 h2 h3 h4)
  .rcases ih with h | h
   .exact .inl (.fwd h h2 h3 e)
   .exact .inr h
 | @back v p k h1 h2 h4 ih =>
  by_cases e:v=i
  .subst e;exact .inr (.back h1 h2 h4)
  .rcases ih with h | h
   .exact .inl (.back h h2 e)
   .exact .inr (h.up (Nat.le_succ _))
inductive Fw (P:Nat->List Nat) (a:Nat):Nat->Prop where
 | refl:Fw P a a
 | step {v p:Nat}:Fw P a p->p∈P v->p<v->Fw P a v
theorem Fw.le {P:Nat->List Nat} {a:Nat} (h:Fw P a v):a<=v:=by
 induction h with
 | refl=>exact f0d _
 | step _ _ h ih=>omega
theorem Fw.trans {P:Nat->List Nat} {a b:Nat} (h:Fw P a b) (h':Fw P b v):Fw P a v:=by
 induction h' with
 | refl=>exact h
 | step _ h2 h3 ih=>exact .step ih h2 h3
theorem Fw.av {P:Nat->List Nat} {a:Nat} (h:Fw P a v) (hz:z<a) (k':Av P z a k):Av P z v k:=by
 induction h with
 | refl=>exact k'
 | step h1 h2 h3 ih=>exact .fwd ih h2 h3 (by have:=h1.le;omega)
def BdP (j i v:Nat):Nat:=if v<i then j+1 else j
structure PassI (P:Nat->List Nat) (n:Nat) (D:Nat->Option Nat) (j i:Nat):Prop where
 ok:DomOk n D
 out:∀ v,n<=v->D v=none
 kn:∀ v,v<i->v<n->D v≠none
 all:0<j->∀ v,v<n->D v≠none
 hi:∀ v z k,D v≠none->Anc D v z->k<BdP j i v->¬ Av P z v k
 lo:∀ v z,D v≠none->v<n->(∀ k,¬ Av P z v k)->Anc D v z
 fw:∀ v z,Anc D v z->Fw P z v
def jfq (D:Nat->Option Nat) (i m:Nat):Nat->Option Nat:=fun v=>if v=i then some m else D v
theorem j3a (k:DomOk n D) (hi:0<i) (hm:m<i) (hk:D m≠none):DomOk n (jfq D i m):=by
 refine⟨?_,fun a b ha hb=>?_,fun a b ha hb=>?_⟩
 .unfold jfq;rw[if_neg (by omega)];exact k.root
 .unfold jfq at hb
  split at hb
  .cases hb;omega
  .exact k.lt a b ha hb
 .have key:D b≠none:=by
   unfold jfq at hb
   split at hb
   .cases hb;exact hk
   .exact k.up a b ha hb
  unfold jfq
  split
  .simp
  .exact key
theorem jfl (k:DomOk n D):∀ {v z:Nat},v<i->(Anc (jfq D i m) v z↔Anc D v z):=by
 intro v
 induction v using Nat.strongRecOn with
 | ind v ih =>
  intro z hv
  have e:jfq D i m v=D v:=by unfold jfq;rw[if_neg (by omega)]
  constructor
  .intro h
   rcases h.cases with rfl | ⟨j,h1,h2,h3⟩
   .exact .self _
   .rw [e] at h2
    have:=k.lt v j h1 h2
    exact .up h1 h2 ((ih j this (by omega)).1 h3)
  .intro h
   rcases h.cases with rfl | ⟨j,h1,h2,h3⟩
   .exact .self _
   .have:=k.lt v j h1 h2
    exact .up h1 (e.trans h2) ((ih j this (by omega)).2 h3)
theorem jpe (k:DomOk n D) (hi:0<i) (hm:m<i):Anc (jfq D i m) i z↔z=i∨Anc D m z:=by
 have e:jfq D i m i=some m:=by unfold jfq;rw[if_pos rfl]
 constructor
 .intro h
  rcases h.cases with rfl | ⟨j,h1,h2,h3⟩
  .exact .inl rfl
  .rw [e] at h2;cases h2
   exact .inr ((jfl k hm).1 h3)
 .rintro (rfl | h)
  .exact .self _
  .exact .up hi e ((jfl k hm).2 h)
theorem jrp (k:DomOk n D) (hi:0<i) (hm:m<i) (hk:D m≠none):∀ {v z:Nat},i<v->Anc (jfq D i m) v z->Anc D v z∨(Anc D v i/\Anc (jfq D i m) i z):=by
 have k':=j3a k hi hm hk
 intro v
 induction v using Nat.strongRecOn with
 | ind v ih =>
  intro z hv h
  have e:jfq D i m v=D v:=by unfold jfq;rw[if_neg (by omega)]
  rcases h.cases with rfl | ⟨j,h1,h2,h3⟩
  .exact .inl (.self _)
  .rw [e] at h2
   have hj:=k.lt v j h1 h2
   rcases f2k j i with h4 | h4 | h4
   .exact .inl (.up h1 h2 ((jfl k h4).1 h3))
   .subst h4
    exact .inr ⟨.up h1 h2 (.self _),h3⟩
   .rcases ih j hj h4 h3 with h5 | ⟨h5,h6⟩
    .exact .inl (.up h1 h2 h5)
    .exact .inr ⟨.up h1 h2 h5,h6⟩
theorem jxv (k:DomOk n D) (hi:0<i) (hm:m<i) (hk:D m≠none):∀ {v z:Nat},i<v->Anc D v z->(i<=z->Anc (jfq D i m) v z)/\(Anc D v i->Anc (jfq D i m) i z->Anc (jfq D i m) v z)/\(¬ Anc D v i->Anc (jfq D i m) v z):=by
 intro v
 induction v using Nat.strongRecOn with
 | ind v ih =>
  intro z hv h
  have e:jfq D i m v=D v:=by unfold jfq;rw[if_neg (by omega)]
  rcases h.cases with rfl | ⟨j,h1,h2,h3⟩
  .exact ⟨fun _=>.self _,fun _ _=>.self _,fun _=>.self _⟩
  .have hj:=k.lt v j h1 h2
   rcases f2k j i with h4 | h4 | h4
   .have h5:Anc (jfq D i m) v z:=.up h1 (e.trans h2) ((jfl k h4).2 h3)
    exact⟨fun _=>h5,fun _ _=>h5,fun _=>h5⟩
   .subst h4
    have hvj:Anc D v j:=.up h1 h2 (.self _)
    refine⟨fun hz=>?_,fun _ h6=>.up h1 (e.trans h2) h6,fun hn=>absurd hvj hn⟩
    have:z=j:=Nat.le_antisymm (h3.le k) hz
    subst this
    exact .up h1 (e.trans h2) (.self _)
   .obtain ⟨a1,a2,a3⟩:=ih j hj h4 h3
    have hji:Anc D v i↔Anc D j i:=Anc.dn k h1 h2 (by omega)
    exact⟨fun hz=>.up h1 (e.trans h2) (a1 hz),fun hv' h6=>.up h1 (e.trans h2) (a2 (hji.1 hv') h6),fun hn=>.up h1 (e.trans h2) (a3 (fun h=>hn (hji.2 h)))⟩
theorem PassI.step {P:Nat->List Nat} (hP:∀ v p,p∈P v->p<n) (k:PassI P n D j i) (hi:0<i) (hin:i<n) (hp0:p0∈P i) (hp:p0<i) (hk:D m≠none) (hm:∀ z,Anc D m z↔∀ p∈P i,D p≠none->Anc D p z):m<i/\PassI P n (jfq D i m) j (i+1):=by
 have k0:D p0≠none:=k.kn p0 hp (by omega)
 have hmp:Anc D p0 m:=(hm m).1 (.self m) p0 hp0 k0
 have hmi:m<i:=Nat.lt_of_le_of_lt (hmp.le k.ok) hp
 have ok':=j3a k.ok hi hmi hk
 have e:∀ v,v≠i->jfq D i m v=D v:=fun v hv=>by unfold jfq;rw[if_neg hv]
 have ei:jfq D i m i≠none:=by unfold jfq;rw[if_pos rfl];simp
 have kv:∀ v,jfq D i m v≠none->v≠i->D v≠none:=fun v hv hne=>by rw[e v hne] at hv;exact hv
 have hii:∀ z q,Anc (jfq D i m) i z->q<=j->¬ Av P z i q:=fun z q hz hq ha=>by
  rcases(jpe k.ok hi hmi).1 hz with rfl | hz
  .exact ha.ne rfl
  .have h1:=(hm z).1 hz
   cases ha with
   | root=>omega
   | @fwd _ p _ a1 a2 a3 a4 =>
    have:=k.kn p a3 (by omega)
    exact k.hi p z q this (h1 p a2 this) (by unfold BdP;rw[if_pos a3];omega) a1
   | @back _ p q' a1 a2 a4 =>
    have hpn:=hP i p a2
    have:D p≠none:=k.all (by omega) p hpn
    refine k.hi p z q' this (h1 p a2 this) ?_ a1
    unfold BdP;split<;>omega
 have loi:∀ z,(∀ q,¬ Av P z i q)->Anc (jfq D i m) i z:=fun z hz=>by
  by_cases hzi:z=i
  .subst hzi;exact .self _
  .refine (jpe k.ok hi hmi).2 (.inr ((hm z).2 (fun p hpi hpk=>?_)))
   exact k.lo p z hpk (hP i p hpi) (fun q ha=>hz (q+1) (.back ha hpi (fun h=>hzi h.symm)))
 have fwi:∀ z,Anc (jfq D i m) i z->Fw P z i:=fun z hz=>by
  rcases(jpe k.ok hi hmi).1 hz with rfl | hz
  .exact .refl
  .exact .step (k.fw p0 z ((hm z).1 hz p0 hp0 k0)) hp0 hp
 refine⟨hmi,ok',fun v hv=>by rw[e v (by omega)];exact k.out v hv,fun v hv hvn=>?_,fun hj v hvn=>?_,fun v z q hv hz hq ha=>?_,fun v z hv hvn hz=>?_,fun v z hz=>?_⟩
 .by_cases hvi:v=i
  .subst hvi;exact ei
  .rw [e v hvi];exact k.kn v (by omega) hvn
 .by_cases hvi:v=i
  .subst hvi;exact ei
  .rw [e v hvi];exact k.all hj v hvn
 .rcases f2k v i with h | h | h
  .refine k.hi v z q (kv v hv (by omega)) ((jfl k.ok h).1 hz) ?_ ha
   unfold BdP at hq ⊢
   rw[if_pos (by omega)] at hq
   rw[if_pos h];exact hq
  .subst h
   refine hii z q hz ?_ ha
   unfold BdP at hq
   rw[if_pos (by omega)] at hq;omega
  .unfold BdP at hq
   rw[if_neg (by omega)] at hq
   have hq':q<BdP j i v:=by unfold BdP;rw[if_neg (by omega)];exact hq
   rcases jrp k.ok hi hmi hk h hz with h1 | ⟨h1,h2⟩
   .exact k.hi v z q (kv v hv (by omega)) h1 hq' ha
   .rcases ha.split hi with h3 | h3
    .exact k.hi v i q (kv v hv (by omega)) h1 hq' h3
    .exact hii z q h2 (by omega) h3
 .rcases f2k v i with h | h | h
  .exact (jfl k.ok h).2 (k.lo v z (kv v hv (by omega)) hvn hz)
  .subst h;exact loi z hz
  .have h1:=k.lo v z (kv v hv (by omega)) hvn hz
   obtain⟨a1,a2,a3⟩:=jxv k.ok hi hmi hk h h1
   by_cases hzi:i<=z
   .exact a1 hzi
   .by_cases hvi:Anc D v i
    .refine a2 hvi (loi z (fun q ha=>hz q ?_))
     exact(k.fw v i hvi).av (by omega) ha
    .exact a3 hvi
 .rcases f2k v i with h | h | h
  .exact k.fw v z ((jfl k.ok h).1 hz)
  .subst h;exact fwi z hz
  .rcases jrp k.ok hi hmi hk h hz with h1 | ⟨h1,h2⟩
   .exact k.fw v z h1
   .exact (fwi z h2).trans (k.fw v i h1)
theorem PassI.next {P:Nat->List Nat} (k:PassI P n D j n):PassI P n D (j+1) 1:=by
 refine⟨k.ok,k.out,fun v hv hvn=>k.kn v (by omega) hvn,fun _ v hv=>k.kn v hv hv,fun v z q hv hz hq ha=>?_,k.lo,k.fw⟩
 by_cases h0:v=0
 .subst h0
  have:z=0:=Nat.le_zero.1 (hz.le k.ok)
  subst this
  exact ha.ne rfl
 .have hvn:v<n:=by
   rcases f0j v n with h | h
   .exact h
   .exact absurd (k.out v h) hv
  refine k.hi v z q hv hz ?_ ha
  unfold BdP at hq ⊢
  rw[if_neg (by omega)] at hq
  rw[if_pos hvn];exact hq
theorem PassI.start {P:Nat->List Nat} (hn:0<n):PassI P n (fun v=>if v=0 then some 0 else none) 0 1:=by
 have h0:∀ v z,Anc (fun v=>if v=0 then some 0 else none) v z->z=v:=fun v z h=>by
  rcases h.cases with h | ⟨j,h1,h2,_⟩
  .exact h
  .rw [if_neg (by omega)] at h2;cases h2
 refine⟨⟨rfl,fun i j hi h=>?_,fun i j hi h=>?_⟩,fun v hv=>?_,fun v hv _=>?_,fun h=>by omega,fun v z q hv hz hq ha=>?_,fun v z hv _ hz=>?_,fun v z hz=>?_⟩
 .rw [if_neg (by omega)] at h;cases h
 .rw [if_neg (by omega)] at h;cases h
 .rw [if_neg (by omega)]
 .rw [if_pos (by omega)];simp
 .have:=h0 v z hz
  subst this
  exact ha.ne rfl
 .have:v=0:=by
   rcases f10 v with h | h
   .exact h
   .exact absurd (if_neg (by omega)) hv
  subst this
  have:z=0:=by
   rcases f10 z with h | h
   .exact h
   .exact absurd (.root 0 (by omega)) (hz 0)
  subst this
  exact .self 0
 .have:=h0 v z hz
  subst this
  exact .refl
theorem jpf {α:Type} [DecidableEq α]:∀ {a b:List α},a.Nodup->(∀ x∈a,x∈b)->a.length<=b.length
 | [],b,_,_=>f1r _
 | y::a,b,hn,hs=>by
  obtain⟨h1,h2⟩:=f09.1 hn
  have hy:=hs y (by simp)
  have hl:(b.erase y).length=b.length - 1:=List.length_erase_of_mem hy
  have ih:=jpf (a:=a) (b:=b.erase y) h2 (fun z hz=>(List.mem_erase_of_ne (fun e=>h1 (by rw[←e];exact hz))).2 (hs z (f1b _ hz)))
  have:=List.length_pos_of_mem hy
  simp only[f03]
  omega
theorem Av.short {P:Nat->List Nat} (hn:0<n) (hP:∀ v p,p∈P v->v<n) (h:Av P z v k):Av P z v n:=by
 have hlt:∀ {v k},Av P z v k->v<n:=fun {v k} h=>by
  cases h with
  | root=>exact hn
  | fwd _ h2 _ _=>exact hP _ _ h2
  | back _ h2 _=>exact hP _ _ h2
 have stab:∀ q,(∀ v,Av P z v (q+1)->Av P z v q)->∀ v k,Av P z v k->Av P z v q:=fun q hq v k h=>by
  induction h with
  | root k h=>exact .root q h
  | fwd _ h2 h3 h4 ih=>exact .fwd ih h2 h3 h4
  | back _ h2 h4 ih=>exact hq _ (.back ih h2 h4)
 by_cases hex:∃ q,q<=n/\∀ v,Av P z v (q+1)->Av P z v q
 .obtain ⟨q,h1,h2⟩:=hex
  exact(stab q h2 v k h).up h1
 .exfalso
  have hc:∀ q,q<=n->∃ v,Av P z v (q+1)/\¬ Av P z v q:=fun q hq=>by
   refine Classical.byContradiction (fun hno=>hex ⟨q,hq,fun v hv=>Classical.byContradiction (fun h=>hno ⟨v,hv,h⟩)⟩)
  have hf:∃ f:Nat->Nat,∀ q,q<=n->Av P z (f q) (q+1)/\¬ Av P z (f q) q:=by
   refine⟨fun q=>if h:q<=n then Classical.choose (hc q h) else 0,fun q hq=>?_⟩
   have e:(if h:q<=n then Classical.choose (hc q h) else 0)=Classical.choose (hc q hq):=dif_pos hq
   show Av P z (if h:q<=n then Classical.choose (hc q h) else 0) (q+1)/\¬ Av P z (if h:q<=n then Classical.choose (hc q h) else 0) q
   rw[e]
   exact Classical.choose_spec (hc q hq)
  obtain⟨f,hf⟩:=hf
  have hnd:((List.range (n+1)).map f).Nodup:=by
   rw[List.nodup_iff_pairwise_ne,List.pairwise_map]
   refine List.Pairwise.imp_of_mem ?_ List.pairwise_lt_range
   intro a b ha hb hab e
   have ha':=f1z.1 ha
   have hb':=f1z.1 hb
   have h1:=(hf a (by omega)).1
   rw[e] at h1
   exact(hf b (by omega)).2 (h1.up (by omega))
  have:=jpf hnd (b:=List.range n) (fun x hx=>by
   obtain⟨q,hq,rfl⟩:=f2a.1 hx
   exact f1z.2 (hlt (hf q (by have:=f1z.1 hq;omega)).1))
  simp at this
  omega
theorem PassI.still {P:Nat->List Nat} (hP:∀ v p,p∈P v->v<n/\p<n) (k:PassI P n D j i) (hj:n<j) (hi:0<i) (hin:i<n) (hp0:p0∈P i) (hp:p0<i) (hk:D m≠none) (hm:∀ z,Anc D m z↔∀ p∈P i,D p≠none->Anc D p z):D i=some m:=by
 obtain⟨hmi,k'⟩:=k.step (fun v p h=>(hP v p h).2) hi hin hp0 hp hk hm
 have hn:0<n:=by omega
 have ex:∀ {D':Nat->Option Nat} {i':Nat},PassI P n D' j i'->∀ v z,v<n->(Anc D' v z↔∀ q,¬ Av P z v q):=fun {D' i'} k v z hv=>by
  have hk:=k.all (by omega) v hv
  refine⟨fun h q ha=>?_,k.lo v z hk hv⟩
  refine k.hi v z n hk h ?_ (Av.short hn (fun v p h=>(hP v p h).1) ha)
  unfold BdP;split<;>omega
 have hd:=k.all (by omega) i hin
 cases hc:D i with
 | none=>exact absurd hc hd
 | some i' =>
  have hlt:=k.ok.lt i i' hi hc
  have:i'=m:=by
   refine Anc.ext k.ok (fun z=>?_)
   by_cases hz:z<i
   .rw [←Anc.dn k.ok hi hc hz,ex k i z hin,←ex k' i z hin,jpe k.ok hi hmi]
    exact⟨fun h=>h.resolve_left (by omega),.inr⟩
   .exact ⟨fun h=>absurd (h.le k.ok) (by omega),fun h=>absurd (h.le k.ok) (by omega)⟩
  rw[this]
end
end Go.Proofs.Ytkplfnkgodnmaaa.Ev
