/- The statement 'GroupsRing': tables of calls; the ground. Conditions: none. -/
import Derived.Test.YtgikghbgdpcapaaEnvB
import Derived.Test.YtgikghbgdpcapaaIso
namespace Go.Proofs.Ytgikghbgdpcapaa.groupsRing
open Go Go.Proofs.Ytgikghbgdpcapaa.Ev
noncomputable def G0 : Fns := FB []
theorem e0 (A : Nat → Int) : Env Try.prog A tys G0 := envB (fun i m r h => by cases h)
end Go.Proofs.Ytgikghbgdpcapaa.groupsRing
