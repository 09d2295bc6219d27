/- The statement 'EdgeBad' as runs of the interpreter: what is run. Conditions: none. -/
import Derived.Test.YtgmhjkfejcaacaaEnv
namespace Go.Proofs.Ytgmhjkfejcaacaa.edgeBad
open Go Go.Proofs.Ytgmhjkfejcaacaa.Ev
noncomputable def R (w : Nat) : Bool := isTrue (runFn (F [((0, .ofNat 4), .ofNat w)]) 5000 11 [.s (.sym (.arg 0))] h0)
end Go.Proofs.Ytgmhjkfejcaacaa.edgeBad
