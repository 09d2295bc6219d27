/- The statement 'MachFirst' as runs of the interpreter: what is run. Conditions: none. -/
import Derived.Test.YtomkaghofeklcaaEnvM
namespace Go.Proofs.Ytomkaghofeklcaa.machFirst
open Go Go.Proofs.Ytomkaghofeklcaa.Ev
noncomputable def R (n : Nat) : Bool := isTrue (runFn (FM ([((0, .ofNat 13), .lit (.ofNat n))])) 5000 5 [.s (.sym (.arg 0))] h0)
end Go.Proofs.Ytomkaghofeklcaa.machFirst
