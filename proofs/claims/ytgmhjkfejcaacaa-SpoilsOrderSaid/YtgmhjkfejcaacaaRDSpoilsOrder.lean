/- The statement 'SpoilsOrder' as runs of the interpreter: what is run. Conditions: none. -/
import Derived.Test.YtgmhjkfejcaacaaEnv
namespace Go.Proofs.Ytgmhjkfejcaacaa.spoilsOrder
open Go Go.Proofs.Ytgmhjkfejcaacaa.Ev
noncomputable def R (a : Nat) (b : Nat) (c : Nat) (d : Nat) : Bool := isTrue (runFn (F [((0, .ofNat 2), .ofNat a), ((1, .ofNat 10), .ofNat b), ((2, .ofNat 2), .ofNat c), ((3, .ofNat 10), .ofNat d)]) 5000 12 [.s (.sym (.arg 0)), .s (.sym (.arg 1)), .s (.sym (.arg 2)), .s (.sym (.arg 3))] h0)
end Go.Proofs.Ytgmhjkfejcaacaa.spoilsOrder
