/- The statement 'GroupsRing': tables of calls. Conditions: none. -/
import Derived.Test.YtgikghbgdpcapaaRTGroupsRing0A
import Derived.Test.YtgikghbgdpcapaaRTGroupsRing0B
import Derived.Test.YtgikghbgdpcapaaRTGroupsRing0C
import Derived.Test.YtgikghbgdpcapaaRTGroupsRing0D
import Derived.Test.YtgikghbgdpcapaaRQGroupsRing0
namespace Go.Proofs.Ytgikghbgdpcapaa.groupsRing
open Go Go.Proofs.Ytgikghbgdpcapaa.Ev
noncomputable def rows0 : List Row := lapp rows0_0 (lapp rows0_1 (lapp rows0_2 (lapp rows0_3 ([]))))
theorem ok0 : ∀ e ∈ rows0, RowOk Try.prog tys e := rowsHold_app ok0_0 (rowsHold_app ok0_1 (rowsHold_app ok0_2 (rowsHold_app ok0_3 (fun e h => by cases h))))
noncomputable def G1 : Fns := withT rows0 G0
theorem e1 (A : Nat → Int) : Env Try.prog A tys G1 := withT_env (e0 A) ok0
end Go.Proofs.Ytgikghbgdpcapaa.groupsRing
