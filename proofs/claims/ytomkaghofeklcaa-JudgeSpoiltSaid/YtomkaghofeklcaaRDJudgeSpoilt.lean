/- The statement 'JudgeSpoilt' as runs of the interpreter: what is run. Conditions: none. -/
import Derived.Test.YtomkaghofeklcaaRQJudgeSpoilt1
namespace Go.Proofs.Ytomkaghofeklcaa.judgeSpoilt
open Go Go.Proofs.Ytomkaghofeklcaa.Ev
noncomputable def R (a : Nat) (b : Nat) : Bool := isTrue (runFn (withT rows0 (F ([((0, .ofNat 5), .lit (.ofNat a)), ((1, .ofNat 5), .lit (.ofNat b))]))) 5000 7 [.s (.sym (.arg 0)), .s (.sym (.arg 1))] h0)
end Go.Proofs.Ytomkaghofeklcaa.judgeSpoilt
