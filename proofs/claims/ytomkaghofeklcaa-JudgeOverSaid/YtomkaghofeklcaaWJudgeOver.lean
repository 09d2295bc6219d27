/- The statement 'JudgeOver': its walk, from the runs of all cases. Conditions: ints of 64 bits. -/
import Derived.Test.YtomkaghofeklcaaRJudgeOverA
namespace Go.Proofs.Ytomkaghofeklcaa.judgeOver
open Go Go.RowKit Go.Proofs.Ytomkaghofeklcaa.Ev
set_option linter.unusedVariables false
theorem c_0 : ∀ b : Nat, b < 5 → R 0 b = true
  | 0, _ => g_0_0
  | 1, _ => g_0_1
  | 2, _ => g_0_2
  | 3, _ => g_0_3
  | 4, _ => g_0_4
  | n + 5, h => absurd h (by omega)
theorem c_1 : ∀ b : Nat, b < 5 → R 1 b = true
  | 0, _ => g_1_0
  | 1, _ => g_1_1
  | 2, _ => g_1_2
  | 3, _ => g_1_3
  | 4, _ => g_1_4
  | n + 5, h => absurd h (by omega)
theorem c_2 : ∀ b : Nat, b < 5 → R 2 b = true
  | 0, _ => g_2_0
  | 1, _ => g_2_1
  | 2, _ => g_2_2
  | 3, _ => g_2_3
  | 4, _ => g_2_4
  | n + 5, h => absurd h (by omega)
theorem c_3 : ∀ b : Nat, b < 5 → R 3 b = true
  | 0, _ => g_3_0
  | 1, _ => g_3_1
  | 2, _ => g_3_2
  | 3, _ => g_3_3
  | 4, _ => g_3_4
  | n + 5, h => absurd h (by omega)
theorem c_4 : ∀ b : Nat, b < 5 → R 4 b = true
  | 0, _ => g_4_0
  | 1, _ => g_4_1
  | 2, _ => g_4_2
  | 3, _ => g_4_3
  | 4, _ => g_4_4
  | n + 5, h => absurd h (by omega)
theorem c : ∀ a : Nat, a < 5 → ∀ b : Nat, b < 5 → R a b = true
  | 0, _ => c_0
  | 1, _ => c_1
  | 2, _ => c_2
  | 3, _ => c_3
  | 4, _ => c_4
  | n + 5, h => absurd h (by omega)
theorem judgeOver_walk (W : World) (a0 : Int) (h0 : In64 a0) (a1 : Int) (h1 : In64 a1) : Calls Try.prog 8 #[.int .i64 a0, .int .i64 a1] W fun e w' => e = .returned (.bool true) ∧ Below W.heap.size W w' := by
  obtain ⟨r0, l0, e0⟩ := pick_case a0 5 (by omega)
  obtain ⟨r1, l1, e1⟩ := pick_case a1 5 (by omega)
  have hr := ((c r0 l0) r1 l1)
  refine run_true (withT_env (env (A := fun i => match i with | 0 => a0 | 1 => a1 | _ => 0) ?_) ok0) hr (conOk_none W) _ ?_
  · intro i m r hm
    simp only [List.mem_cons, List.not_mem_nil, or_false, Prod.mk.injEq] at hm
    rcases hm with ⟨⟨rfl, rfl⟩, rfl⟩ | ⟨⟨rfl, rfl⟩, rfl⟩
    · exact ⟨h0, by simp only [Int.ofNat_eq_natCast]; omega, by simp only [Int.ofNat_eq_natCast]; omega, e0⟩
    · exact ⟨h1, by simp only [Int.ofNat_eq_natCast]; omega, by simp only [Int.ofNat_eq_natCast]; omega, e1⟩
  · exact (.cons rfl (.cons rfl .nil))
end Go.Proofs.Ytomkaghofeklcaa.judgeOver
