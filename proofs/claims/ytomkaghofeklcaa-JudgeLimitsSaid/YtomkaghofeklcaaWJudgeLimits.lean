/- The statement 'JudgeLimits': its walk, from the runs of all cases. Conditions: ints of 64 bits. -/
import Derived.Test.YtomkaghofeklcaaRJudgeLimitsA
import Derived.Test.YtomkaghofeklcaaRJudgeLimitsB
import Derived.Test.YtomkaghofeklcaaRJudgeLimitsC
namespace Go.Proofs.Ytomkaghofeklcaa.judgeLimits
open Go Go.RowKit Go.Proofs.Ytomkaghofeklcaa.Ev
set_option linter.unusedVariables false
theorem c_0_0 : ∀ c : Nat, c < 13 → R 0 0 c = true
  | 0, _ => g_0_0_0
  | 1, _ => g_0_0_1
  | 2, _ => g_0_0_2
  | 3, _ => g_0_0_3
  | 4, _ => g_0_0_4
  | 5, _ => g_0_0_5
  | 6, _ => g_0_0_6
  | 7, _ => g_0_0_7
  | 8, _ => g_0_0_8
  | 9, _ => g_0_0_9
  | 10, _ => g_0_0_10
  | 11, _ => g_0_0_11
  | 12, _ => g_0_0_12
  | n + 13, h => absurd h (by omega)
theorem c_0 : ∀ n : Nat, n < 5 → ∀ c : Nat, c < 13 → R 0 n c = true
  | n, _ => (show ∀ c : Nat, c < 13 → R 0 0 c = true from c_0_0)
theorem c_1_0 : ∀ c : Nat, c < 13 → R 1 0 c = true
  | 0, _ => g_1_0_0
  | 1, _ => g_1_0_1
  | 2, _ => g_1_0_2
  | 3, _ => g_1_0_3
  | 4, _ => g_1_0_4
  | 5, _ => g_1_0_5
  | 6, _ => g_1_0_6
  | 7, _ => g_1_0_7
  | 8, _ => g_1_0_8
  | 9, _ => g_1_0_9
  | 10, _ => g_1_0_10
  | 11, _ => g_1_0_11
  | 12, _ => g_1_0_12
  | n + 13, h => absurd h (by omega)
theorem c_1 : ∀ n : Nat, n < 5 → ∀ c : Nat, c < 13 → R 1 n c = true
  | n, _ => (show ∀ c : Nat, c < 13 → R 1 0 c = true from c_1_0)
theorem c_2_0 : ∀ c : Nat, c < 13 → R 2 0 c = true
  | 0, _ => g_2_0_0
  | 1, _ => g_2_0_1
  | 2, _ => g_2_0_2
  | 3, _ => g_2_0_3
  | 4, _ => g_2_0_4
  | 5, _ => g_2_0_5
  | 6, _ => g_2_0_6
  | 7, _ => g_2_0_7
  | 8, _ => g_2_0_8
  | 9, _ => g_2_0_9
  | 10, _ => g_2_0_10
  | 11, _ => g_2_0_11
  | 12, _ => g_2_0_12
  | n + 13, h => absurd h (by omega)
theorem c_2 : ∀ n : Nat, n < 5 → ∀ c : Nat, c < 13 → R 2 n c = true
  | n, _ => (show ∀ c : Nat, c < 13 → R 2 0 c = true from c_2_0)
theorem c_3_0 : ∀ c : Nat, c < 13 → R 3 0 c = true
  | 0, _ => g_3_0_0
  | 1, _ => g_3_0_1
  | 2, _ => g_3_0_2
  | 3, _ => g_3_0_3
  | 4, _ => g_3_0_4
  | 5, _ => g_3_0_5
  | 6, _ => g_3_0_6
  | 7, _ => g_3_0_7
  | 8, _ => g_3_0_8
  | 9, _ => g_3_0_9
  | 10, _ => g_3_0_10
  | 11, _ => g_3_0_11
  | 12, _ => g_3_0_12
  | n + 13, h => absurd h (by omega)
theorem c_3_1 : ∀ c : Nat, c < 13 → R 3 1 c = true
  | 0, _ => g_3_1_0
  | 1, _ => g_3_1_1
  | 2, _ => g_3_1_2
  | 3, _ => g_3_1_3
  | 4, _ => g_3_1_4
  | 5, _ => g_3_1_5
  | 6, _ => g_3_1_6
  | 7, _ => g_3_1_7
  | 8, _ => g_3_1_8
  | 9, _ => g_3_1_9
  | 10, _ => g_3_1_10
  | 11, _ => g_3_1_11
  | 12, _ => g_3_1_12
  | n + 13, h => absurd h (by omega)
theorem c_3_2 : ∀ c : Nat, c < 13 → R 3 2 c = true
  | 0, _ => g_3_2_0
  | 1, _ => g_3_2_1
  | 2, _ => g_3_2_2
  | 3, _ => g_3_2_3
  | 4, _ => g_3_2_4
  | 5, _ => g_3_2_5
  | 6, _ => g_3_2_6
  | 7, _ => g_3_2_7
  | 8, _ => g_3_2_8
  | 9, _ => g_3_2_9
  | 10, _ => g_3_2_10
  | 11, _ => g_3_2_11
  | 12, _ => g_3_2_12
  | n + 13, h => absurd h (by omega)
theorem c_3_3 : ∀ c : Nat, c < 13 → R 3 3 c = true
  | 0, _ => g_3_3_0
  | 1, _ => g_3_3_1
  | 2, _ => g_3_3_2
  | 3, _ => g_3_3_3
  | 4, _ => g_3_3_4
  | 5, _ => g_3_3_5
  | 6, _ => g_3_3_6
  | 7, _ => g_3_3_7
  | 8, _ => g_3_3_8
  | 9, _ => g_3_3_9
  | 10, _ => g_3_3_10
  | 11, _ => g_3_3_11
  | 12, _ => g_3_3_12
  | n + 13, h => absurd h (by omega)
theorem c_3_4 : ∀ c : Nat, c < 13 → R 3 4 c = true
  | 0, _ => g_3_4_0
  | 1, _ => g_3_4_1
  | 2, _ => g_3_4_2
  | 3, _ => g_3_4_3
  | 4, _ => g_3_4_4
  | 5, _ => g_3_4_5
  | 6, _ => g_3_4_6
  | 7, _ => g_3_4_7
  | 8, _ => g_3_4_8
  | 9, _ => g_3_4_9
  | 10, _ => g_3_4_10
  | 11, _ => g_3_4_11
  | 12, _ => g_3_4_12
  | n + 13, h => absurd h (by omega)
theorem c_3 : ∀ n : Nat, n < 5 → ∀ c : Nat, c < 13 → R 3 n c = true
  | 0, _ => c_3_0
  | 1, _ => c_3_1
  | 2, _ => c_3_2
  | 3, _ => c_3_3
  | 4, _ => c_3_4
  | n + 5, h => absurd h (by omega)
theorem c : ∀ l : Nat, l < 4 → ∀ n : Nat, n < 5 → ∀ c : Nat, c < 13 → R l n c = true
  | 0, _ => c_0
  | 1, _ => c_1
  | 2, _ => c_2
  | 3, _ => c_3
  | n + 4, h => absurd h (by omega)
theorem judgeLimits_walk (W : World) (a0 : Int) (h0 : In64 a0) (a1 : Int) (h1 : In64 a1) (a2 : Int) (h2 : In64 a2) : Calls Try.prog 10 #[.int .i64 a0, .int .i64 a1, .int .i64 a2] W fun e w' => e = .returned (.bool true) ∧ Below W.heap.size W w' := by
  obtain ⟨r0, l0, e0⟩ := pick_case a0 4 (by omega)
  obtain ⟨r1, l1, e1⟩ := pick_case a1 5 (by omega)
  obtain ⟨r2, l2, e2⟩ := pick_case a2 13 (by omega)
  have hr := (((c r0 l0) r1 l1) r2 l2)
  refine run_true (withT_env (env (A := fun i => match i with | 0 => a0 | 1 => a1 | 2 => a2 | _ => 0) ?_) ok0) hr (conOk_none W) _ ?_
  · intro i m r hm
    rw [lapp_eq, List.mem_append] at hm
    rcases hm with hm | hm
    · cases hb : Nat.beq r0 3 <;> rw [hb] at hm
      · cases hm
      · simp only [cond_true, List.mem_cons, List.not_mem_nil, or_false, Prod.mk.injEq] at hm
        obtain ⟨⟨rfl, rfl⟩, rfl⟩ := hm
        exact ⟨h1, by simp only [Int.ofNat_eq_natCast]; omega, by simp only [Int.ofNat_eq_natCast]; omega, e1⟩
    · simp only [List.mem_cons, List.not_mem_nil, or_false, Prod.mk.injEq] at hm
      rcases hm with ⟨⟨rfl, rfl⟩, rfl⟩ | ⟨⟨rfl, rfl⟩, rfl⟩
      · exact ⟨h0, by simp only [Int.ofNat_eq_natCast]; omega, by simp only [Int.ofNat_eq_natCast]; omega, e0⟩
      · exact ⟨h2, by simp only [Int.ofNat_eq_natCast]; omega, by simp only [Int.ofNat_eq_natCast]; omega, e2⟩
  · exact (.cons rfl (.cons rfl (.cons rfl .nil)))
end Go.Proofs.Ytomkaghofeklcaa.judgeLimits
