/- The interpreter set to this program, live.compute and mach.box.begin among what it answers. -/
import Derived.Test.YtmafghjodghgcaaGreatEnvB
namespace Go.Proofs.YtmafghjodghgcaaGreat.Ev
open Go Go.RowKit
noncomputable def FBM (ps : List ((Nat × Int) × Sx)) : Fns := FX isB [(68, false), (23, true), (26, true)] ps
theorem envBM {A : Nat → Int} {ps : List ((Nat × Int) × Sx)} (h0 : ∀ i m r, ((i, m), r) ∈ ps → In64 (A i) ∧ 0 < m ∧ m ≤ 9223372036854775807 ∧ pick (A i) m = den A r) : Env Tryz.prog A tys (FBM ps) := envX isB_ok h0
end Go.Proofs.YtmafghjodghgcaaGreat.Ev
