/- The statement 'ReuseBad' as runs of the interpreter: what is run. Conditions: none. -/
import Derived.Test.YtgmhjkfejcaacaaEnv
namespace Go.Proofs.Ytgmhjkfejcaacaa.reuseBad
open Go Go.Proofs.Ytgmhjkfejcaacaa.Ev
noncomputable def R (w : Nat) (n : Nat) : Bool := isTrue (runFn (F [((0, .ofNat 5), .ofNat w), ((1, .ofNat 9), .ofNat n)]) 5000 7 [.s (.sym (.arg 0)), .s (.sym (.arg 1))] h0)
end Go.Proofs.Ytgmhjkfejcaacaa.reuseBad
