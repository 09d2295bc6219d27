/- The statement 'KindTold' as runs of the interpreter: what is run. Conditions: none. -/
import Derived.Test.YtgmhjkfejcaacaaEnv
namespace Go.Proofs.Ytgmhjkfejcaacaa.kindTold
open Go Go.Proofs.Ytgmhjkfejcaacaa.Ev
noncomputable def R (k : Nat) (l : Nat) : Bool := isTrue (runFn (F [((0, .ofNat 6), .ofNat k), ((1, .ofNat 9), .ofNat l)]) 5000 10 [.s (.sym (.arg 0)), .s (.sym (.arg 1))] h0)
end Go.Proofs.Ytgmhjkfejcaacaa.kindTold
