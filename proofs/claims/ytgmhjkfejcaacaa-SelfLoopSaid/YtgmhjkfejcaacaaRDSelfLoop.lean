/- The statement 'SelfLoop' as runs of the interpreter: what is run. Conditions: none. -/
import Derived.Test.YtgmhjkfejcaacaaEnv
namespace Go.Proofs.Ytgmhjkfejcaacaa.selfLoop
open Go Go.Proofs.Ytgmhjkfejcaacaa.Ev
noncomputable def R (n : Nat) : Bool := isTrue (runFn (F [((0, .ofNat 9), .ofNat n)]) 5000 24 [.s (.sym (.arg 0))] h0)
end Go.Proofs.Ytgmhjkfejcaacaa.selfLoop
