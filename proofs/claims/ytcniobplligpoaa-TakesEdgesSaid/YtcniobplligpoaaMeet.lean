/- shape.Meet answers as meetB does. Conditions: none. -/
import Derived.Test.YtcniobplligpoaaProg
import Derived.Test.YtcniobplligpoaaData
namespace Go.Proofs.Ytcniobplligpoaa
open Go.RowKit
set_option linter.unusedVariables false

set_option maxHeartbeats 400000 in
theorem meet_one (k v l n k' v' l' n' : Int) (t t' : Bool) (w : World) (hk : k ≠ 2 ∨ k' = 2) :
    Calls Try.prog 18 #[.agg #[.int .i64 k, .int .i64 v, .bool t, .int .i64 l, .int .i64 n], .agg #[.int .i64 k', .int .i64 v', .bool t', .int .i64 l', .int .i64 n']] w
      fun e w' => e = .returned (.bool (meetB ⟨k, v, t, l, n⟩ ⟨k', v', t', l', n'⟩)) ∧ Below w.heap.size w w' := by
  have hB : ∀ o o', Below w.heap.size w ((w.alloc o).alloc o') := fun o o' => ((Below.refl _ _).alloc (Nat.le_refl _) _).alloc (by simp) _
  by_cases h1 : k = 1 <;> by_cases h2 : k' = 1 <;> by_cases h3 : k = 2 <;> by_cases h4 : k' = 2 <;> try omega
  all_goals
    cases t
    all_goals
      go_enter Try.func18, Try.ntmps18
      go_wp2
      go_ret
      refine ⟨?_, hB _ _⟩
      first | rfl | (refine ret_bool ?_; simp [meetB, *])

theorem bcells {W w1 : World} (hb : Below W.heap.size W w1) : (∀ b o, b < W.heap.size → w1.cell? ⟨b, o, none⟩ = W.cell? ⟨b, o, none⟩) ∧ (∀ b o, b < W.heap.size → w1.frozen? ⟨b, o, none⟩ = W.frozen? ⟨b, o, none⟩) :=
  ⟨fun b o h => hb.cell (p := ⟨b, o, none⟩) h, fun b o h => hb.frozen (p := ⟨b, o, none⟩) h⟩

set_option maxHeartbeats 400000 in
theorem meet_any (k v l n k' v' l' n' : Int) (t t' : Bool) (w : World) :
    Calls Try.prog 18 #[.agg #[.int .i64 k, .int .i64 v, .bool t, .int .i64 l, .int .i64 n], .agg #[.int .i64 k', .int .i64 v', .bool t', .int .i64 l', .int .i64 n']] w
      fun e w' => e = .returned (.bool (meetB ⟨k, v, t, l, n⟩ ⟨k', v', t', l', n'⟩)) ∧ Below w.heap.size w w' := by
  by_cases hk : k ≠ 2 ∨ k' = 2
  · exact meet_one k v l n k' v' l' n' t t' w hk
  · have h1 : k = 2 := by omega
    have h2 : (k' == 2) = false := by rw [beq_eq_false_iff_ne]; omega
    have h4 : k' ≠ 2 := by omega
    subst h1
    have HE : Hid (meetB ⟨2, v, t, l, n⟩ ⟨k', v', t', l', n'⟩ = meetB ⟨k', v', t', l', n'⟩ ⟨2, v, t, l, n⟩) := by
      show _ = _; simp [meetB, h4]
    have HC := fun w => hide (meet_one k' v' l' n' 2 v l n t' t w (by omega))
    clear hk h4
    go_enter Try.func18, Try.ntmps18
    go_wp2_with (go_at_call 18; (with_reducible refine (HC _).out.mono ?_); rintro e w' ⟨rfl, hbel⟩)
    go_ret
    refine ⟨ret_bool HE.out.symm, ((((Below.refl _ _).alloc (Nat.le_refl _) _).alloc (by simp) _).trans (hbel.mono (by simp; omega)))⟩
theorem meet_to {r : Bool} (k v l n k' v' l' n' : Int) (t t' : Bool) (w : World) (hr : meetB ⟨k, v, t, l, n⟩ ⟨k', v', t', l', n'⟩ = r) :
    Calls Try.prog 18 #[.agg #[.int .i64 k, .int .i64 v, .bool t, .int .i64 l, .int .i64 n], .agg #[.int .i64 k', .int .i64 v', .bool t', .int .i64 l', .int .i64 n']] w
      fun e w' => e = .returned (.bool r) ∧ Below w.heap.size w w' := by
  subst hr; exact meet_any k v l n k' v' l' n' t t' w
end Go.Proofs.Ytcniobplligpoaa
