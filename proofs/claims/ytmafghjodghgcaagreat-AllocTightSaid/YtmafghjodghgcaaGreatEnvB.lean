/- The interpreter set to this program, live.compute (which goes over a slice from its end by a function) among what it answers. -/
import Derived.Test.YtmafghjodghgcaaGreatEnvX
import Derived.Test.YtmafghjodghgcaaGreatIter
namespace Go.Proofs.YtmafghjodghgcaaGreat.Ev
open Go Go.RowKit
def isB (f : FuncId) : Bool := Nat.beq f 153
theorem isB_ok : ∀ f, isB f = true → Iter Tryz.prog f := fun f hf => by
  obtain rfl := Nat.eq_of_beq_eq_true hf
  exact iterOk
noncomputable def FB (ps : List ((Nat × Int) × Sx)) : Fns := FX isB [(68, false)] ps
theorem envB {A : Nat → Int} {ps : List ((Nat × Int) × Sx)} (h0 : ∀ i m r, ((i, m), r) ∈ ps → In64 (A i) ∧ 0 < m ∧ m ≤ 9223372036854775807 ∧ pick (A i) m = den A r) : Env Tryz.prog A tys (FB ps) := envX isB_ok h0
end Go.Proofs.YtmafghjodghgcaaGreat.Ev
