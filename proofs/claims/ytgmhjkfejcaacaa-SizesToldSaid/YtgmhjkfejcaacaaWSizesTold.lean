/- The statement 'SizesTold': its walk, from the runs of all cases. Conditions: ints of 64 bits. -/
import Derived.Test.YtgmhjkfejcaacaaRSizesToldA
import Derived.Test.YtgmhjkfejcaacaaRSizesToldB
namespace Go.Proofs.Ytgmhjkfejcaacaa.sizesTold
open Go Go.RowKit Go.Proofs.Ytgmhjkfejcaacaa.Ev
set_option linter.unusedVariables false
theorem c_0 : ∀ n : Nat, n < 4 → R 0 n = true
  | 0, _ => g_0_0
  | 1, _ => g_0_1
  | 2, _ => g_0_2
  | 3, _ => g_0_3
  | n + 4, h => absurd h (by omega)
theorem c_1 : ∀ n : Nat, n < 4 → R 1 n = true
  | 0, _ => g_1_0
  | 1, _ => g_1_1
  | 2, _ => g_1_2
  | 3, _ => g_1_3
  | n + 4, h => absurd h (by omega)
theorem c_2 : ∀ n : Nat, n < 4 → R 2 n = true
  | 0, _ => g_2_0
  | 1, _ => g_2_1
  | 2, _ => g_2_2
  | 3, _ => g_2_3
  | n + 4, h => absurd h (by omega)
theorem c_3 : ∀ n : Nat, n < 4 → R 3 n = true
  | 0, _ => g_3_0
  | 1, _ => g_3_1
  | 2, _ => g_3_2
  | 3, _ => g_3_3
  | n + 4, h => absurd h (by omega)
theorem c : ∀ w : Nat, w < 4 → ∀ n : Nat, n < 4 → R w n = true
  | 0, _ => c_0
  | 1, _ => c_1
  | 2, _ => c_2
  | 3, _ => c_3
  | n + 4, h => absurd h (by omega)
theorem sizesTold_walk (W : World) (a0 : Int) (h0 : In64 a0) (a1 : Int) (h1 : In64 a1) : Calls Try.prog 8 #[.int .i64 a0, .int .i64 a1] W fun e w' => e = .returned (.bool true) ∧ Below W.heap.size W w' := by
  obtain ⟨r0, l0, e0⟩ := pick_case a0 4 (by omega)
  obtain ⟨r1, l1, e1⟩ := pick_case a1 4 (by omega)
  have hr := ((c r0 l0) r1 l1)
  refine run_true (env (A := fun i => match i with | 0 => a0 | 1 => a1 | _ => 0) ?_) hr W _ ?_
  · intro i m r hm
    simp only [List.mem_cons, List.not_mem_nil, or_false, Prod.mk.injEq] at hm
    rcases hm with ⟨⟨rfl, rfl⟩, rfl⟩ | ⟨⟨rfl, rfl⟩, rfl⟩
    · exact ⟨h0, by simp only [Int.ofNat_eq_natCast]; omega, by simp only [Int.ofNat_eq_natCast]; omega, e0⟩
    · exact ⟨h1, by simp only [Int.ofNat_eq_natCast]; omega, by simp only [Int.ofNat_eq_natCast]; omega, e1⟩
  · exact (.cons rfl (.cons rfl .nil))
end Go.Proofs.Ytgmhjkfejcaacaa.sizesTold
