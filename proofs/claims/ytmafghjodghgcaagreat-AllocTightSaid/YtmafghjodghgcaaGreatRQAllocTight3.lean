/- The statement 'AllocTight': tables of calls. Conditions: none. -/
import Derived.Test.YtmafghjodghgcaaGreatRTAllocTight2A
import Derived.Test.YtmafghjodghgcaaGreatRTAllocTight2B
import Derived.Test.YtmafghjodghgcaaGreatRTAllocTight2C
import Derived.Test.YtmafghjodghgcaaGreatRTAllocTight2D
import Derived.Test.YtmafghjodghgcaaGreatRQAllocTight2
namespace Go.Proofs.YtmafghjodghgcaaGreat.allocTight
open Go Go.Proofs.YtmafghjodghgcaaGreat.Ev
noncomputable def rows2 : List Row := lapp rows2_0 (lapp rows2_1 (lapp rows2_2 (lapp rows2_3 ([]))))
theorem ok2 : ∀ e ∈ rows2, RowOk Tryz.prog tys e := rowsHold_app ok2_0 (rowsHold_app ok2_1 (rowsHold_app ok2_2 (rowsHold_app ok2_3 (fun e h => by cases h))))
noncomputable def G3 : Fns := withT rows2 G2
theorem e3 (A : Nat → Int) : Env Tryz.prog A tys G3 := withT_env (e2 A) ok2
end Go.Proofs.YtmafghjodghgcaaGreat.allocTight
