/- The statement 'SpoilsOrder': its walk, from the runs of all cases. Conditions: ints of 64 bits. -/
import Derived.Test.YtgmhjkfejcaacaaRSpoilsOrderA
import Derived.Test.YtgmhjkfejcaacaaRSpoilsOrderB
import Derived.Test.YtgmhjkfejcaacaaRSpoilsOrderC
import Derived.Test.YtgmhjkfejcaacaaRSpoilsOrderD
import Derived.Test.YtgmhjkfejcaacaaRSpoilsOrderE
namespace Go.Proofs.Ytgmhjkfejcaacaa.spoilsOrder
open Go Go.RowKit Go.Proofs.Ytgmhjkfejcaacaa.Ev
set_option linter.unusedVariables false
theorem c_0 : ∀ b : Nat, b < 10 → up 2 (fun c => up 10 (fun d => R 0 b c d)) = true
  | 0, _ => g_0_0
  | 1, _ => g_0_1
  | 2, _ => g_0_2
  | 3, _ => g_0_3
  | 4, _ => g_0_4
  | 5, _ => g_0_5
  | 6, _ => g_0_6
  | 7, _ => g_0_7
  | 8, _ => g_0_8
  | 9, _ => g_0_9
  | n + 10, h => absurd h (by omega)
theorem c_1 : ∀ b : Nat, b < 10 → up 2 (fun c => up 10 (fun d => R 1 b c d)) = true
  | 0, _ => g_1_0
  | 1, _ => g_1_1
  | 2, _ => g_1_2
  | 3, _ => g_1_3
  | 4, _ => g_1_4
  | 5, _ => g_1_5
  | 6, _ => g_1_6
  | 7, _ => g_1_7
  | 8, _ => g_1_8
  | 9, _ => g_1_9
  | n + 10, h => absurd h (by omega)
theorem c : ∀ a : Nat, a < 2 → ∀ b : Nat, b < 10 → up 2 (fun c => up 10 (fun d => R a b c d)) = true
  | 0, _ => c_0
  | 1, _ => c_1
  | n + 2, h => absurd h (by omega)
theorem spoilsOrder_walk (W : World) (a0 : Int) (h0 : In64 a0) (a1 : Int) (h1 : In64 a1) (a2 : Int) (h2 : In64 a2) (a3 : Int) (h3 : In64 a3) : Calls Try.prog 12 #[.int .i64 a0, .int .i64 a1, .int .i64 a2, .int .i64 a3] W fun e w' => e = .returned (.bool true) ∧ Below W.heap.size W w' := by
  obtain ⟨r0, l0, e0⟩ := pick_case a0 2 (by omega)
  obtain ⟨r1, l1, e1⟩ := pick_case a1 10 (by omega)
  obtain ⟨r2, l2, e2⟩ := pick_case a2 2 (by omega)
  obtain ⟨r3, l3, e3⟩ := pick_case a3 10 (by omega)
  have hr := (up_all (up_all ((c r0 l0) r1 l1) r2 l2) r3 l3)
  refine run_true (env (A := fun i => match i with | 0 => a0 | 1 => a1 | 2 => a2 | 3 => a3 | _ => 0) ?_) hr W _ ?_
  · intro i m r hm
    simp only [List.mem_cons, List.not_mem_nil, or_false, Prod.mk.injEq] at hm
    rcases hm with ⟨⟨rfl, rfl⟩, rfl⟩ | ⟨⟨rfl, rfl⟩, rfl⟩ | ⟨⟨rfl, rfl⟩, rfl⟩ | ⟨⟨rfl, rfl⟩, rfl⟩
    · exact ⟨h0, by simp only [Int.ofNat_eq_natCast]; omega, by simp only [Int.ofNat_eq_natCast]; omega, e0⟩
    · exact ⟨h1, by simp only [Int.ofNat_eq_natCast]; omega, by simp only [Int.ofNat_eq_natCast]; omega, e1⟩
    · exact ⟨h2, by simp only [Int.ofNat_eq_natCast]; omega, by simp only [Int.ofNat_eq_natCast]; omega, e2⟩
    · exact ⟨h3, by simp only [Int.ofNat_eq_natCast]; omega, by simp only [Int.ofNat_eq_natCast]; omega, e3⟩
  · exact (.cons rfl (.cons rfl (.cons rfl (.cons rfl .nil))))
end Go.Proofs.Ytgmhjkfejcaacaa.spoilsOrder
