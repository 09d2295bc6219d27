/- The statement 'SizesTold' as runs of the interpreter: what is run. Conditions: none. -/
import Derived.Test.YtgmhjkfejcaacaaEnv
namespace Go.Proofs.Ytgmhjkfejcaacaa.sizesTold
open Go Go.Proofs.Ytgmhjkfejcaacaa.Ev
noncomputable def R (w : Nat) (n : Nat) : Bool := isTrue (runFn (F [((0, .ofNat 4), .ofNat w), ((1, .ofNat 4), .ofNat n)]) 5000 8 [.s (.sym (.arg 0)), .s (.sym (.arg 1))] h0)
end Go.Proofs.Ytgmhjkfejcaacaa.sizesTold
