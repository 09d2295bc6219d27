/- The statement 'JudgeOver' as runs of the interpreter: what is run. Conditions: none. -/
import Derived.Test.YtomkaghofeklcaaRQJudgeOver1
namespace Go.Proofs.Ytomkaghofeklcaa.judgeOver
open Go Go.Proofs.Ytomkaghofeklcaa.Ev
noncomputable def R (a : Nat) (b : Nat) : Bool := isTrue (runFn (withT rows0 (F ([((0, .ofNat 5), .lit (.ofNat a)), ((1, .ofNat 5), .lit (.ofNat b))]))) 5000 8 [.s (.sym (.arg 0)), .s (.sym (.arg 1))] h0)
end Go.Proofs.Ytomkaghofeklcaa.judgeOver
