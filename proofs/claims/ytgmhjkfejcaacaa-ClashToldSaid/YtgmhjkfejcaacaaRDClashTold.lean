/- The statement 'ClashTold' as runs of the interpreter: what is run. Conditions: none. -/
import Derived.Test.YtgmhjkfejcaacaaEnv
namespace Go.Proofs.Ytgmhjkfejcaacaa.clashTold
open Go Go.Proofs.Ytgmhjkfejcaacaa.Ev
noncomputable def R (n : Nat) (l : Bool) (w : Nat) : Bool := isTrue (runFn (F [((0, .ofNat 10), .ofNat n), ((2, .ofNat 3), .ofNat w)]) 5000 6 [.s (.sym (.arg 0)), .s (.bool l), .s (.sym (.arg 2))] h0)
end Go.Proofs.Ytgmhjkfejcaacaa.clashTold
