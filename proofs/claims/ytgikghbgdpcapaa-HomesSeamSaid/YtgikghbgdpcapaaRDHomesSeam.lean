/- The statement 'HomesSeam' as runs of the interpreter: what is run. Conditions: none. -/
import Derived.Test.YtgikghbgdpcapaaEnvB
namespace Go.Proofs.Ytgikghbgdpcapaa.homesSeam
open Go Go.Proofs.Ytgikghbgdpcapaa.Ev
noncomputable def R (k : Nat) (a : Nat) (b : Nat) : Bool := isTrue (runFn (FB [((0, .ofNat 4), .lit (.ofNat k)), ((1, .ofNat 3), .lit (.ofNat a)), ((2, .ofNat 3), .lit (.ofNat b))]) 5000 10 [.s (.sym (.arg 0)), .s (.sym (.arg 1)), .s (.sym (.arg 2))] h0)
end Go.Proofs.Ytgikghbgdpcapaa.homesSeam
