/- The statement 'PricesRing' as runs of the interpreter: what is run. Conditions: none. -/
import Derived.Test.YtfdociobgmbfjaaEnv
namespace Go.Proofs.Ytfdociobgmbfjaa.pricesRing
open Go Go.Proofs.Ytfdociobgmbfjaa.Ev
noncomputable def R (n : Nat) : Bool := isTrue (runFn (F [((0, .ofNat 20), .lit (.ofNat n))]) 5000 7 [.s (.sym (.arg 0))] h0)
end Go.Proofs.Ytfdociobgmbfjaa.pricesRing
