/- The statement 'HomesClaimed' as runs of the interpreter: what is run. Conditions: none. -/
import Derived.Test.YtgikghbgdpcapaaEnvB
namespace Go.Proofs.Ytgikghbgdpcapaa.homesClaimed
open Go Go.Proofs.Ytgikghbgdpcapaa.Ev
noncomputable def R (n : Nat) (r : Nat) (a : Nat) : Bool := isTrue (runFn (FB [((0, .ofNat 5), .lit (.ofNat n)), ((1, .ofNat 5), .lit (.ofNat r)), ((2, .ofNat 3), .lit (.ofNat a))]) 5000 11 [.s (.sym (.arg 0)), .s (.sym (.arg 1)), .s (.sym (.arg 2))] h0)
end Go.Proofs.Ytgikghbgdpcapaa.homesClaimed
