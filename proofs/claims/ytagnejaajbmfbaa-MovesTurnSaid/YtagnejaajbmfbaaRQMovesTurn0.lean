/- The statement 'MovesTurn': tables of calls; the ground. Conditions: none. -/
import Derived.Test.YtagnejaajbmfbaaEnvM
import Derived.Test.YtagnejaajbmfbaaIso
namespace Go.Proofs.Ytagnejaajbmfbaa.movesTurn
open Go Go.Proofs.Ytagnejaajbmfbaa.Ev
noncomputable def G0 : Fns := FM []
theorem e0 (A : Nat → Int) : Env Try.prog A tys G0 := envM (fun i m r h => by cases h)
end Go.Proofs.Ytagnejaajbmfbaa.movesTurn
