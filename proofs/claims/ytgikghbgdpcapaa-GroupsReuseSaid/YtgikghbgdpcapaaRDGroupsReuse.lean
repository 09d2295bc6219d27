/- The statement 'GroupsReuse' as runs of the interpreter: what is run. Conditions: none. -/
import Derived.Test.YtgikghbgdpcapaaEnvB
namespace Go.Proofs.Ytgikghbgdpcapaa.groupsReuse
open Go Go.Proofs.Ytgikghbgdpcapaa.Ev
noncomputable def R (n : Nat) (l : Bool) : Bool := isTrue (runFn (FB [((0, .ofNat 10), .lit (.ofNat n))]) 5000 9 [.s (.sym (.arg 0)), .s (.bool l)] h0)
end Go.Proofs.Ytgikghbgdpcapaa.groupsReuse
