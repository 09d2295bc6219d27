/- The statement 'AllocTight': its walk, from the runs of all cases. Conditions: ints of 64 bits. -/
import Derived.Test.YtmafghjodghgcaaGreatRAllocTightA
import Derived.Test.YtmafghjodghgcaaGreatRAllocTightB
import Derived.Test.YtmafghjodghgcaaGreatRAllocTightC
namespace Go.Proofs.YtmafghjodghgcaaGreat.allocTight
open Go Go.RowKit Go.Proofs.YtmafghjodghgcaaGreat.Ev
set_option linter.unusedVariables false
theorem c_0_0 : ∀ y : Nat, y < 3 → R 0 0 y = true
  | 0, _ => g_0_0_0
  | 1, _ => g_0_0_1
  | 2, _ => g_0_0_2
  | n + 3, h => absurd h (by omega)
theorem c_0_1 : ∀ y : Nat, y < 3 → R 0 1 y = true
  | 0, _ => g_0_1_0
  | 1, _ => g_0_1_1
  | 2, _ => g_0_1_2
  | n + 3, h => absurd h (by omega)
theorem c_0 : ∀ x : Nat, x < 2 → ∀ y : Nat, y < 3 → R 0 x y = true
  | 0, _ => c_0_0
  | 1, _ => c_0_1
  | n + 2, h => absurd h (by omega)
theorem c_1_0 : ∀ y : Nat, y < 3 → R 1 0 y = true
  | 0, _ => g_1_0_0
  | 1, _ => g_1_0_1
  | 2, _ => g_1_0_2
  | n + 3, h => absurd h (by omega)
theorem c_1_1 : ∀ y : Nat, y < 3 → R 1 1 y = true
  | 0, _ => g_1_1_0
  | 1, _ => g_1_1_1
  | 2, _ => g_1_1_2
  | n + 3, h => absurd h (by omega)
theorem c_1 : ∀ x : Nat, x < 2 → ∀ y : Nat, y < 3 → R 1 x y = true
  | 0, _ => c_1_0
  | 1, _ => c_1_1
  | n + 2, h => absurd h (by omega)
theorem c_2_0 : ∀ y : Nat, y < 3 → R 2 0 y = true
  | 0, _ => g_2_0_0
  | 1, _ => g_2_0_1
  | 2, _ => g_2_0_2
  | n + 3, h => absurd h (by omega)
theorem c_2_1 : ∀ y : Nat, y < 3 → R 2 1 y = true
  | 0, _ => g_2_1_0
  | 1, _ => g_2_1_1
  | 2, _ => g_2_1_2
  | n + 3, h => absurd h (by omega)
theorem c_2 : ∀ x : Nat, x < 2 → ∀ y : Nat, y < 3 → R 2 x y = true
  | 0, _ => c_2_0
  | 1, _ => c_2_1
  | n + 2, h => absurd h (by omega)
theorem c_3_0 : ∀ y : Nat, y < 3 → R 3 0 y = true
  | 0, _ => g_3_0_0
  | 1, _ => g_3_0_1
  | 2, _ => g_3_0_2
  | n + 3, h => absurd h (by omega)
theorem c_3_1 : ∀ y : Nat, y < 3 → R 3 1 y = true
  | 0, _ => g_3_1_0
  | 1, _ => g_3_1_1
  | 2, _ => g_3_1_2
  | n + 3, h => absurd h (by omega)
theorem c_3 : ∀ x : Nat, x < 2 → ∀ y : Nat, y < 3 → R 3 x y = true
  | 0, _ => c_3_0
  | 1, _ => c_3_1
  | n + 2, h => absurd h (by omega)
theorem c_4_0 : ∀ y : Nat, y < 3 → R 4 0 y = true
  | 0, _ => g_4_0_0
  | 1, _ => g_4_0_1
  | 2, _ => g_4_0_2
  | n + 3, h => absurd h (by omega)
theorem c_4_1 : ∀ y : Nat, y < 3 → R 4 1 y = true
  | 0, _ => g_4_1_0
  | 1, _ => g_4_1_1
  | 2, _ => g_4_1_2
  | n + 3, h => absurd h (by omega)
theorem c_4 : ∀ x : Nat, x < 2 → ∀ y : Nat, y < 3 → R 4 x y = true
  | 0, _ => c_4_0
  | 1, _ => c_4_1
  | n + 2, h => absurd h (by omega)
theorem c_5_0 : ∀ y : Nat, y < 3 → R 5 0 y = true
  | 0, _ => g_5_0_0
  | 1, _ => g_5_0_1
  | 2, _ => g_5_0_2
  | n + 3, h => absurd h (by omega)
theorem c_5_1 : ∀ y : Nat, y < 3 → R 5 1 y = true
  | 0, _ => g_5_1_0
  | 1, _ => g_5_1_1
  | 2, _ => g_5_1_2
  | n + 3, h => absurd h (by omega)
theorem c_5 : ∀ x : Nat, x < 2 → ∀ y : Nat, y < 3 → R 5 x y = true
  | 0, _ => c_5_0
  | 1, _ => c_5_1
  | n + 2, h => absurd h (by omega)
theorem c_6_0 : ∀ y : Nat, y < 3 → R 6 0 y = true
  | 0, _ => g_6_0_0
  | 1, _ => g_6_0_1
  | 2, _ => g_6_0_2
  | n + 3, h => absurd h (by omega)
theorem c_6_1 : ∀ y : Nat, y < 3 → R 6 1 y = true
  | 0, _ => g_6_1_0
  | 1, _ => g_6_1_1
  | 2, _ => g_6_1_2
  | n + 3, h => absurd h (by omega)
theorem c_6 : ∀ x : Nat, x < 2 → ∀ y : Nat, y < 3 → R 6 x y = true
  | 0, _ => c_6_0
  | 1, _ => c_6_1
  | n + 2, h => absurd h (by omega)
theorem c_7_0 : ∀ y : Nat, y < 3 → R 7 0 y = true
  | 0, _ => g_7_0_0
  | 1, _ => g_7_0_1
  | 2, _ => g_7_0_2
  | n + 3, h => absurd h (by omega)
theorem c_7_1 : ∀ y : Nat, y < 3 → R 7 1 y = true
  | 0, _ => g_7_1_0
  | 1, _ => g_7_1_1
  | 2, _ => g_7_1_2
  | n + 3, h => absurd h (by omega)
theorem c_7 : ∀ x : Nat, x < 2 → ∀ y : Nat, y < 3 → R 7 x y = true
  | 0, _ => c_7_0
  | 1, _ => c_7_1
  | n + 2, h => absurd h (by omega)
theorem c_8_0 : ∀ y : Nat, y < 3 → R 8 0 y = true
  | 0, _ => g_8_0_0
  | 1, _ => g_8_0_1
  | 2, _ => g_8_0_2
  | n + 3, h => absurd h (by omega)
theorem c_8_1 : ∀ y : Nat, y < 3 → R 8 1 y = true
  | 0, _ => g_8_1_0
  | 1, _ => g_8_1_1
  | 2, _ => g_8_1_2
  | n + 3, h => absurd h (by omega)
theorem c_8 : ∀ x : Nat, x < 2 → ∀ y : Nat, y < 3 → R 8 x y = true
  | 0, _ => c_8_0
  | 1, _ => c_8_1
  | n + 2, h => absurd h (by omega)
theorem c : ∀ a : Nat, a < 9 → ∀ x : Nat, x < 2 → ∀ y : Nat, y < 3 → R a x y = true
  | 0, _ => c_0
  | 1, _ => c_1
  | 2, _ => c_2
  | 3, _ => c_3
  | 4, _ => c_4
  | 5, _ => c_5
  | 6, _ => c_6
  | 7, _ => c_7
  | 8, _ => c_8
  | n + 9, h => absurd h (by omega)
theorem allocTight_walk (W : World) (a0 : Int) (h0 : In64 a0) (a1 : Int) (h1 : In64 a1) (a2 : Int) (h2 : In64 a2) : Calls Tryz.prog 5 #[.int .i64 a0, .int .i64 a1, .int .i64 a2] W fun e w' => e = .returned (.bool true) ∧ Below W.heap.size W w' := by
  obtain ⟨r0, l0, e0⟩ := pick_case a0 9 (by omega)
  obtain ⟨r1, l1, e1⟩ := pick_case a1 2 (by omega)
  obtain ⟨r2, l2, e2⟩ := pick_case a1 3 (by omega)
  have hr := (((c r0 l0) r1 l1) r2 l2)
  refine run_true (withT_env (withT_env (withT_env (envBM (A := fun i => match i with | 0 => a0 | 1 => a1 | 2 => a2 | _ => 0) ?_) ok0) ok1) ok2) hr (conOk_none W) _ ?_
  · intro i m r hm
    simp only [List.mem_cons, List.not_mem_nil, or_false, Prod.mk.injEq] at hm
    rcases hm with ⟨⟨rfl, rfl⟩, rfl⟩ | ⟨⟨rfl, rfl⟩, rfl⟩ | ⟨⟨rfl, rfl⟩, rfl⟩
    · exact ⟨h0, by simp only [Int.ofNat_eq_natCast]; omega, by simp only [Int.ofNat_eq_natCast]; omega, e0⟩
    · exact ⟨h1, by simp only [Int.ofNat_eq_natCast]; omega, by simp only [Int.ofNat_eq_natCast]; omega, e1⟩
    · exact ⟨h1, by simp only [Int.ofNat_eq_natCast]; omega, by simp only [Int.ofNat_eq_natCast]; omega, e2⟩
  · exact (.cons rfl (.cons rfl (.cons rfl .nil)))
end Go.Proofs.YtmafghjodghgcaaGreat.allocTight
