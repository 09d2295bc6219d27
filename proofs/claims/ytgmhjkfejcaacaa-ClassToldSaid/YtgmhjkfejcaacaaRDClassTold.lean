/- The statement 'ClassTold' as runs of the interpreter: what is run. Conditions: none. -/
import Derived.Test.YtgmhjkfejcaacaaEnv
namespace Go.Proofs.Ytgmhjkfejcaacaa.classTold
open Go Go.Proofs.Ytgmhjkfejcaacaa.Ev
noncomputable def R (c : Nat) : Bool := isTrue (runFn (F [((0, .ofNat 9), .ofNat c)]) 5000 9 [.s (.sym (.arg 0))] h0)
end Go.Proofs.Ytgmhjkfejcaacaa.classTold
