/- The interpreter set to this program, mach.box.begin (loads in no order) among what it answers. -/
import Derived.Test.YtagnejaajbmfbaaEnvX
namespace Go.Proofs.Ytagnejaajbmfbaa.Ev
open Go Go.RowKit
set_option linter.unusedVariables false
noncomputable def FM (ps : List ((Nat × Int) × Sx)) : Fns := FX (fun _ => false) [(16, true), (19, true)] ps
theorem envM {A : Nat → Int} {ps : List ((Nat × Int) × Sx)} (h0 : ∀ i m r, ((i, m), r) ∈ ps → In64 (A i) ∧ 0 < m ∧ m ≤ 9223372036854775807 ∧ pick (A i) m = den A r) : Env Try.prog A tys (FM ps) := envX (fun f hf => by cases hf) h0
end Go.Proofs.Ytagnejaajbmfbaa.Ev
