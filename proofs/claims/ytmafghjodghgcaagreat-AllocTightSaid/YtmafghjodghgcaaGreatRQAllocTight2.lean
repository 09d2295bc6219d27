/- The statement 'AllocTight': tables of calls. Conditions: none. -/
import Derived.Test.YtmafghjodghgcaaGreatRTAllocTight1A
import Derived.Test.YtmafghjodghgcaaGreatRTAllocTight1B
import Derived.Test.YtmafghjodghgcaaGreatRTAllocTight1C
import Derived.Test.YtmafghjodghgcaaGreatRQAllocTight1
namespace Go.Proofs.YtmafghjodghgcaaGreat.allocTight
open Go Go.Proofs.YtmafghjodghgcaaGreat.Ev
noncomputable def rows1 : List Row := lapp rows1_0 (lapp rows1_1 (lapp rows1_2 ([])))
theorem ok1 : ∀ e ∈ rows1, RowOk Tryz.prog tys e := rowsHold_app ok1_0 (rowsHold_app ok1_1 (rowsHold_app ok1_2 (fun e h => by cases h)))
noncomputable def G2 : Fns := withT rows1 G1
theorem e2 (A : Nat → Int) : Env Tryz.prog A tys G2 := withT_env (e1 A) ok1
end Go.Proofs.YtmafghjodghgcaaGreat.allocTight
