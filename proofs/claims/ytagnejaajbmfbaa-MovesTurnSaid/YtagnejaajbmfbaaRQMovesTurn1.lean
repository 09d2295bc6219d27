/- The statement 'MovesTurn': tables of calls. Conditions: none. -/
import Derived.Test.YtagnejaajbmfbaaRTMovesTurn0A
import Derived.Test.YtagnejaajbmfbaaRQMovesTurn0
namespace Go.Proofs.Ytagnejaajbmfbaa.movesTurn
open Go Go.Proofs.Ytagnejaajbmfbaa.Ev
noncomputable def rows0 : List Row := lapp rows0_0 ([])
theorem ok0 : ∀ e ∈ rows0, RowOk Try.prog tys e := rowsHold_app ok0_0 (fun e h => by cases h)
noncomputable def G1 : Fns := withT rows0 G0
theorem e1 (A : Nat → Int) : Env Try.prog A tys G1 := withT_env (e0 A) ok0
end Go.Proofs.Ytagnejaajbmfbaa.movesTurn
