/- The statement 'JudgeWays': its walk, from the runs of all cases. Conditions: ints of 64 bits. -/
import Derived.Test.YtomkaghofeklcaaRJudgeWaysA
import Derived.Test.YtomkaghofeklcaaRJudgeWaysB
namespace Go.Proofs.Ytomkaghofeklcaa.judgeWays
open Go Go.RowKit Go.Proofs.Ytomkaghofeklcaa.Ev
set_option linter.unusedVariables false
theorem c_0_0 : ∀ c : Nat, c < 3 → R 0 0 c = true
  | 0, _ => g_0_0_0
  | 1, _ => g_0_0_1
  | 2, _ => g_0_0_2
  | n + 3, h => absurd h (by omega)
theorem c_0_1 : ∀ c : Nat, c < 3 → R 0 1 c = true
  | 0, _ => g_0_1_0
  | 1, _ => g_0_1_1
  | 2, _ => g_0_1_2
  | n + 3, h => absurd h (by omega)
theorem c_0_2 : ∀ c : Nat, c < 3 → R 0 2 c = true
  | 0, _ => g_0_2_0
  | 1, _ => g_0_2_1
  | 2, _ => g_0_2_2
  | n + 3, h => absurd h (by omega)
theorem c_0 : ∀ b : Nat, b < 3 → ∀ c : Nat, c < 3 → R 0 b c = true
  | 0, _ => c_0_0
  | 1, _ => c_0_1
  | 2, _ => c_0_2
  | n + 3, h => absurd h (by omega)
theorem c_1_0 : ∀ c : Nat, c < 3 → R 1 0 c = true
  | 0, _ => g_1_0_0
  | 1, _ => g_1_0_1
  | 2, _ => g_1_0_2
  | n + 3, h => absurd h (by omega)
theorem c_1_1 : ∀ c : Nat, c < 3 → R 1 1 c = true
  | 0, _ => g_1_1_0
  | 1, _ => g_1_1_1
  | 2, _ => g_1_1_2
  | n + 3, h => absurd h (by omega)
theorem c_1_2 : ∀ c : Nat, c < 3 → R 1 2 c = true
  | 0, _ => g_1_2_0
  | 1, _ => g_1_2_1
  | 2, _ => g_1_2_2
  | n + 3, h => absurd h (by omega)
theorem c_1 : ∀ b : Nat, b < 3 → ∀ c : Nat, c < 3 → R 1 b c = true
  | 0, _ => c_1_0
  | 1, _ => c_1_1
  | 2, _ => c_1_2
  | n + 3, h => absurd h (by omega)
theorem c_2_0 : ∀ c : Nat, c < 3 → R 2 0 c = true
  | 0, _ => g_2_0_0
  | 1, _ => g_2_0_1
  | 2, _ => g_2_0_2
  | n + 3, h => absurd h (by omega)
theorem c_2_1 : ∀ c : Nat, c < 3 → R 2 1 c = true
  | 0, _ => g_2_1_0
  | 1, _ => g_2_1_1
  | 2, _ => g_2_1_2
  | n + 3, h => absurd h (by omega)
theorem c_2_2 : ∀ c : Nat, c < 3 → R 2 2 c = true
  | 0, _ => g_2_2_0
  | 1, _ => g_2_2_1
  | 2, _ => g_2_2_2
  | n + 3, h => absurd h (by omega)
theorem c_2 : ∀ b : Nat, b < 3 → ∀ c : Nat, c < 3 → R 2 b c = true
  | 0, _ => c_2_0
  | 1, _ => c_2_1
  | 2, _ => c_2_2
  | n + 3, h => absurd h (by omega)
theorem c : ∀ a : Nat, a < 3 → ∀ b : Nat, b < 3 → ∀ c : Nat, c < 3 → R a b c = true
  | 0, _ => c_0
  | 1, _ => c_1
  | 2, _ => c_2
  | n + 3, h => absurd h (by omega)
theorem judgeWays_walk (W : World) (a0 : Int) (h0 : In64 a0) (a1 : Int) (h1 : In64 a1) (a2 : Int) (h2 : In64 a2) : Calls Try.prog 9 #[.int .i64 a0, .int .i64 a1, .int .i64 a2] W fun e w' => e = .returned (.bool true) ∧ Below W.heap.size W w' := by
  obtain ⟨r0, l0, e0⟩ := pick_case a0 3 (by omega)
  obtain ⟨r1, l1, e1⟩ := pick_case a1 3 (by omega)
  obtain ⟨r2, l2, e2⟩ := pick_case a2 3 (by omega)
  have hr := (((c r0 l0) r1 l1) r2 l2)
  refine run_true (withT_env (env (A := fun i => match i with | 0 => a0 | 1 => a1 | 2 => a2 | _ => 0) ?_) ok0) hr (conOk_none W) _ ?_
  · intro i m r hm
    simp only [List.mem_cons, List.not_mem_nil, or_false, Prod.mk.injEq] at hm
    rcases hm with ⟨⟨rfl, rfl⟩, rfl⟩ | ⟨⟨rfl, rfl⟩, rfl⟩ | ⟨⟨rfl, rfl⟩, rfl⟩
    · exact ⟨h0, by simp only [Int.ofNat_eq_natCast]; omega, by simp only [Int.ofNat_eq_natCast]; omega, e0⟩
    · exact ⟨h1, by simp only [Int.ofNat_eq_natCast]; omega, by simp only [Int.ofNat_eq_natCast]; omega, e1⟩
    · exact ⟨h2, by simp only [Int.ofNat_eq_natCast]; omega, by simp only [Int.ofNat_eq_natCast]; omega, e2⟩
  · exact (.cons rfl (.cons rfl (.cons rfl .nil)))
end Go.Proofs.Ytomkaghofeklcaa.judgeWays
