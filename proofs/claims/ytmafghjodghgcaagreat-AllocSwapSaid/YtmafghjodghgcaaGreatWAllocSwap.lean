/- The statement 'AllocSwap': its walk, from the runs of all cases. Conditions: ints of 64 bits. -/
import Derived.Test.YtmafghjodghgcaaGreatRAllocSwapA
import Derived.Test.YtmafghjodghgcaaGreatRAllocSwapB
import Derived.Test.YtmafghjodghgcaaGreatRAllocSwapC
namespace Go.Proofs.YtmafghjodghgcaaGreat.allocSwap
open Go Go.RowKit Go.Proofs.YtmafghjodghgcaaGreat.Ev
set_option linter.unusedVariables false
theorem c_0 : ∀ c : Nat, c < 2 → R 0 c = true
  | 0, _ => g_0_0
  | 1, _ => g_0_1
  | n + 2, h => absurd h (by omega)
theorem c_1 : ∀ c : Nat, c < 2 → R 1 c = true
  | 0, _ => g_1_0
  | 1, _ => g_1_1
  | n + 2, h => absurd h (by omega)
theorem c_2 : ∀ c : Nat, c < 2 → R 2 c = true
  | 0, _ => g_2_0
  | 1, _ => g_2_1
  | n + 2, h => absurd h (by omega)
theorem c_3 : ∀ c : Nat, c < 2 → R 3 c = true
  | 0, _ => g_3_0
  | 1, _ => g_3_1
  | n + 2, h => absurd h (by omega)
theorem c_4 : ∀ c : Nat, c < 2 → R 4 c = true
  | 0, _ => g_4_0
  | 1, _ => g_4_1
  | n + 2, h => absurd h (by omega)
theorem c_5 : ∀ c : Nat, c < 2 → R 5 c = true
  | 0, _ => g_5_0
  | 1, _ => g_5_1
  | n + 2, h => absurd h (by omega)
theorem c_6 : ∀ c : Nat, c < 2 → R 6 c = true
  | 0, _ => g_6_0
  | 1, _ => g_6_1
  | n + 2, h => absurd h (by omega)
theorem c_7 : ∀ c : Nat, c < 2 → R 7 c = true
  | 0, _ => g_7_0
  | 1, _ => g_7_1
  | n + 2, h => absurd h (by omega)
theorem c_8 : ∀ c : Nat, c < 2 → R 8 c = true
  | 0, _ => g_8_0
  | 1, _ => g_8_1
  | n + 2, h => absurd h (by omega)
theorem c : ∀ a : Nat, a < 9 → ∀ c : Nat, c < 2 → R a c = true
  | 0, _ => c_0
  | 1, _ => c_1
  | 2, _ => c_2
  | 3, _ => c_3
  | 4, _ => c_4
  | 5, _ => c_5
  | 6, _ => c_6
  | 7, _ => c_7
  | 8, _ => c_8
  | n + 9, h => absurd h (by omega)
theorem allocSwap_walk (W : World) (a0 : Int) (h0 : In64 a0) (a1 : Int) (h1 : In64 a1) (a2 : Int) (h2 : In64 a2) : Calls Tryz.prog 4 #[.int .i64 a0, .int .i64 a1, .int .i64 a2] W fun e w' => e = .returned (.bool true) ∧ Below W.heap.size W w' := by
  obtain ⟨r0, l0, e0⟩ := pick_case a0 9 (by omega)
  obtain ⟨r1, l1, e1⟩ := pick_case a2 2 (by omega)
  have hr := ((c r0 l0) r1 l1)
  refine run_true (withT_env (withT_env (withT_env (envBM (A := fun i => match i with | 0 => a0 | 1 => a1 | 2 => a2 | _ => 0) ?_) ok0) ok1) ok2) hr (conOk_none W) _ ?_
  · intro i m r hm
    simp only [List.mem_cons, List.not_mem_nil, or_false, Prod.mk.injEq] at hm
    rcases hm with ⟨⟨rfl, rfl⟩, rfl⟩ | ⟨⟨rfl, rfl⟩, rfl⟩
    · exact ⟨h0, by simp only [Int.ofNat_eq_natCast]; omega, by simp only [Int.ofNat_eq_natCast]; omega, e0⟩
    · exact ⟨h2, by simp only [Int.ofNat_eq_natCast]; omega, by simp only [Int.ofNat_eq_natCast]; omega, e1⟩
  · exact (.cons rfl (.cons rfl (.cons rfl .nil)))
end Go.Proofs.YtmafghjodghgcaaGreat.allocSwap
