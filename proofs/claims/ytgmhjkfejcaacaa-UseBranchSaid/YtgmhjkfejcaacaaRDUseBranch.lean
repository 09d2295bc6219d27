/- The statement 'UseBranch' as runs of the interpreter: what is run. Conditions: none. -/
import Derived.Test.YtgmhjkfejcaacaaEnv
namespace Go.Proofs.Ytgmhjkfejcaacaa.useBranch
open Go Go.Proofs.Ytgmhjkfejcaacaa.Ev
noncomputable def R (b : Bool) : Bool := isTrue (runFn (F []) 5000 22 [.s (.bool b)] h0)
end Go.Proofs.Ytgmhjkfejcaacaa.useBranch
