/- The statement 'SourceSwap' as runs of the interpreter: what is run. Conditions: none. -/
import Derived.Test.YtfdociobgmbfjaaEnv
namespace Go.Proofs.Ytfdociobgmbfjaa.sourceSwap
open Go Go.Proofs.Ytfdociobgmbfjaa.Ev
noncomputable def R (n : Nat) : Bool := isTrue (runFn (F [((1, .ofNat 20), .lit (.ofNat n))]) 5000 5 [.s (.sym (.arg 0)), .s (.sym (.arg 1))] h0)
end Go.Proofs.Ytfdociobgmbfjaa.sourceSwap
