/- The statement 'MovesTurn': tables of calls. Conditions: none. -/
import Derived.Test.YtagnejaajbmfbaaRTMovesTurn1A
import Derived.Test.YtagnejaajbmfbaaRQMovesTurn1
namespace Go.Proofs.Ytagnejaajbmfbaa.movesTurn
open Go Go.Proofs.Ytagnejaajbmfbaa.Ev
noncomputable def rows1 : List Row := lapp rows1_0 ([])
theorem ok1 : ∀ e ∈ rows1, RowOk Try.prog tys e := rowsHold_app ok1_0 (fun e h => by cases h)
noncomputable def G2 : Fns := withT rows1 G1
theorem e2 (A : Nat → Int) : Env Try.prog A tys G2 := withT_env (e1 A) ok1
end Go.Proofs.Ytagnejaajbmfbaa.movesTurn
