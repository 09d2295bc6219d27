/- The statement 'ShapeFull' as runs of the interpreter: what is run. Conditions: none. -/
import Derived.Test.YtgmhjkfejcaacaaEnv
namespace Go.Proofs.Ytgmhjkfejcaacaa.shapeFull
open Go Go.Proofs.Ytgmhjkfejcaacaa.Ev
noncomputable def R (a : Nat) (n : Nat) (s : Nat) : Bool := isTrue (runFn (F [((0, .ofNat 9), .ofNat a), ((1, .ofNat 7), .ofNat n), ((2, .ofNat (3 + a)), .ofNat s)]) 5000 5 [.s (.sym (.arg 0)), .s (.sym (.arg 1)), .s (.sym (.arg 2))] h0)
end Go.Proofs.Ytgmhjkfejcaacaa.shapeFull
