/- What shape.CheckMachine answers of a machine of two classes. Conditions: numbers of 64 bits. -/
import Derived.Test.YtcniobplligpoaaMix
namespace Go.Proofs.Ytcniobplligpoaa
open Go.RowKit
set_option linter.unusedVariables false
/-- may a machine be? 0: yes, 2: out of bounds -/
def ckMach (a b : Int) : Int := if 2 ≤ a ∧ a ≤ 10 ∧ 2 ≤ b ∧ b ≤ 10 then 0 else 2

set_option maxHeartbeats 400000 in
theorem checkMachine_any (a b : Int) (w : World) (ha1 : -9223372036854775808 ≤ a) (ha2 : a ≤ 9223372036854775807) (hb1 : -9223372036854775808 ≤ b) (hb2 : b ≤ 9223372036854775807) :
    Calls Try.prog 16 #[.agg #[.int .i64 a, .int .i64 b]] w fun e w' => e = .returned (.int .i64 (ckMach a b)) ∧ Below w.heap.size w w' := by
  have hB : Below w.heap.size w (w.alloc (.cells #[.int .i64 a, .int .i64 b] 30)) := (Below.refl _ _).alloc (Nat.le_refl _) _
  have i0 : ∀ w, (Instr.index 28 (.agg #[.int .i64 a, .int .i64 b]) (.int .i64 0)).run Try.prog w = .ok (.int .i64 a) w := fun _ => by kernel_rfl
  have i1 : ∀ w, (Instr.index 28 (.agg #[.int .i64 a, .int .i64 b]) (.int .i64 1)).run Try.prog w = .ok (.int .i64 b) w := fun _ => by kernel_rfl
  go_enter Try.func16, Try.ntmps16
  go_wp2
  refine wp_loop_rounds 3 ?_
  rw [rounds_succ]
  go_wp2
  all_goals (try (rw [rounds_succ]; go_wp2))
  all_goals (try (rw [rounds_succ]; go_wp2))
  all_goals (go_ret; refine ⟨ret_int ?_, hB⟩; unfold ckMach; first | rw [if_pos (by omega)] | rw [if_neg (by omega)])
theorem checkMachine_to {r : Int} (a b : Int) (w : World) (ha1 : -9223372036854775808 ≤ a) (ha2 : a ≤ 9223372036854775807) (hb1 : -9223372036854775808 ≤ b) (hb2 : b ≤ 9223372036854775807) (hr : ckMach a b = r) :
    Calls Try.prog 16 #[.agg #[.int .i64 a, .int .i64 b]] w fun e w' => e = .returned (.int .i64 r) ∧ Below w.heap.size w w' := by
  subst hr; exact checkMachine_any a b w ha1 ha2 hb1 hb2
end Go.Proofs.Ytcniobplligpoaa
