/- The statement 'JudgeMove' as runs of the interpreter: what is run. Conditions: none. -/
import Derived.Test.YtomkaghofeklcaaRQJudgeMove1
namespace Go.Proofs.Ytomkaghofeklcaa.judgeMove
open Go Go.Proofs.Ytomkaghofeklcaa.Ev
noncomputable def R (a : Nat) (b : Nat) (c : Nat) : Bool := isTrue (runFn (withT rows0 (F ([((0, .ofNat 4), .lit (.ofNat a)), ((1, .ofNat 3), .lit (.ofNat b)), ((2, .ofNat 13), .lit (.ofNat c))]))) 5000 6 [.s (.sym (.arg 0)), .s (.sym (.arg 1)), .s (.sym (.arg 2))] h0)
end Go.Proofs.Ytomkaghofeklcaa.judgeMove
