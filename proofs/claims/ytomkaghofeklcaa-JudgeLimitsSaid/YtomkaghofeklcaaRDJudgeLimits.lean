/- The statement 'JudgeLimits' as runs of the interpreter: what is run. Conditions: none. -/
import Derived.Test.YtomkaghofeklcaaRQJudgeLimits1
namespace Go.Proofs.Ytomkaghofeklcaa.judgeLimits
open Go Go.Proofs.Ytomkaghofeklcaa.Ev
noncomputable def R (l : Nat) (n : Nat) (c : Nat) : Bool := isTrue (runFn (withT rows0 (F (lapp (bif Nat.beq l 3 then [((1, .ofNat 5), .lit (.ofNat n))] else []) ([((0, .ofNat 4), .lit (.ofNat l)), ((2, .ofNat 13), .lit (.ofNat c))])))) 5000 10 [.s (.sym (.arg 0)), .s (.sym (.arg 1)), .s (.sym (.arg 2))] h0)
end Go.Proofs.Ytomkaghofeklcaa.judgeLimits
