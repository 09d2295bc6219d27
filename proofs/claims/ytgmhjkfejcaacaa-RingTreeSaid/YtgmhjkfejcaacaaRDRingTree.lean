/- The statement 'RingTree' as runs of the interpreter: what is run. Conditions: none. -/
import Derived.Test.YtgmhjkfejcaacaaEnv
namespace Go.Proofs.Ytgmhjkfejcaacaa.ringTree
open Go Go.Proofs.Ytgmhjkfejcaacaa.Ev
noncomputable def R (n : Nat) : Bool := isTrue (runFn (F [((0, .ofNat 20), .ofNat n)]) 5000 23 [.s (.sym (.arg 0))] h0)
end Go.Proofs.Ytgmhjkfejcaacaa.ringTree
