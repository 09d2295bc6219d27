/- The statement 'JudgeWays' as runs of the interpreter: what is run. Conditions: none. -/
import Derived.Test.YtomkaghofeklcaaRQJudgeWays1
namespace Go.Proofs.Ytomkaghofeklcaa.judgeWays
open Go Go.Proofs.Ytomkaghofeklcaa.Ev
noncomputable def R (a : Nat) (b : Nat) (c : Nat) : Bool := isTrue (runFn (withT rows0 (F ([((0, .ofNat 3), .lit (.ofNat a)), ((1, .ofNat 3), .lit (.ofNat b)), ((2, .ofNat 3), .lit (.ofNat c))]))) 5000 9 [.s (.sym (.arg 0)), .s (.sym (.arg 1)), .s (.sym (.arg 2))] h0)
end Go.Proofs.Ytomkaghofeklcaa.judgeWays
