/- The statement 'MachJunk' as runs of the interpreter: what is run. Conditions: none. -/
import Derived.Test.YtomkaghofeklcaaEnvM
namespace Go.Proofs.Ytomkaghofeklcaa.machJunk
open Go Go.Proofs.Ytomkaghofeklcaa.Ev
noncomputable def R (n : Nat) : Bool := isTrue (runFn (FM ([((0, .ofNat 5), .lit (.ofNat n))])) 5000 4 [.s (.sym (.arg 0)), .s (.sym (.arg 1))] h0)
end Go.Proofs.Ytomkaghofeklcaa.machJunk
