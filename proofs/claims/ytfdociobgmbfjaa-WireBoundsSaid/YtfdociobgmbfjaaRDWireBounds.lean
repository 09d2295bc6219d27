/- The statement 'WireBounds' as runs of the interpreter: what is run. Conditions: none. -/
import Derived.Test.YtfdociobgmbfjaaEnv
namespace Go.Proofs.Ytfdociobgmbfjaa.wireBounds
open Go Go.Proofs.Ytfdociobgmbfjaa.Ev
noncomputable def R (w : Nat) : Bool := isTrue (runFn (F [((0, .ofNat 4), .lit (.ofNat w)), ((1, .ofNat 1000), .bnd 100 999)]) 5000 3 [.s (.sym (.arg 0)), .s (.sym (.arg 1))] h0)
end Go.Proofs.Ytfdociobgmbfjaa.wireBounds
