/- The statement 'SpansLine': its walk, from the runs of all cases. Conditions: ints of 64 bits. -/
import Derived.Test.YtgikghbgdpcapaaRSpansLineA
import Derived.Test.YtgikghbgdpcapaaRSpansLineB
import Derived.Test.YtgikghbgdpcapaaRSpansLineC
import Derived.Test.YtgikghbgdpcapaaRSpansLineD
namespace Go.Proofs.Ytgikghbgdpcapaa.spansLine
open Go Go.RowKit Go.Proofs.Ytgikghbgdpcapaa.Ev
set_option linter.unusedVariables false
theorem c_0 : ∀ l : Bool, R 0 l = true
  | true => g_0_true
  | false => g_0_false
theorem c_1 : ∀ l : Bool, R 1 l = true
  | true => g_1_true
  | false => g_1_false
theorem c_2 : ∀ l : Bool, R 2 l = true
  | true => g_2_true
  | false => g_2_false
theorem c_3 : ∀ l : Bool, R 3 l = true
  | true => g_3_true
  | false => g_3_false
theorem c_4 : ∀ l : Bool, R 4 l = true
  | true => g_4_true
  | false => g_4_false
theorem c_5 : ∀ l : Bool, R 5 l = true
  | true => g_5_true
  | false => g_5_false
theorem c_6 : ∀ l : Bool, R 6 l = true
  | true => g_6_true
  | false => g_6_false
theorem c_7 : ∀ l : Bool, R 7 l = true
  | true => g_7_true
  | false => g_7_false
theorem c_8 : ∀ l : Bool, R 8 l = true
  | true => g_8_true
  | false => g_8_false
theorem c_9 : ∀ l : Bool, R 9 l = true
  | true => g_9_true
  | false => g_9_false
theorem c_10 : ∀ l : Bool, R 10 l = true
  | true => g_10_true
  | false => g_10_false
theorem c_11 : ∀ l : Bool, R 11 l = true
  | true => g_11_true
  | false => g_11_false
theorem c_12 : ∀ l : Bool, R 12 l = true
  | true => g_12_true
  | false => g_12_false
theorem c_13 : ∀ l : Bool, R 13 l = true
  | true => g_13_true
  | false => g_13_false
theorem c_14 : ∀ l : Bool, R 14 l = true
  | true => g_14_true
  | false => g_14_false
theorem c_15 : ∀ l : Bool, R 15 l = true
  | true => g_15_true
  | false => g_15_false
theorem c_16 : ∀ l : Bool, R 16 l = true
  | true => g_16_true
  | false => g_16_false
theorem c_17 : ∀ l : Bool, R 17 l = true
  | true => g_17_true
  | false => g_17_false
theorem c_18 : ∀ l : Bool, R 18 l = true
  | true => g_18_true
  | false => g_18_false
theorem c_19 : ∀ l : Bool, R 19 l = true
  | true => g_19_true
  | false => g_19_false
theorem c : ∀ n : Nat, n < 20 → ∀ l : Bool, R n l = true
  | 0, _ => c_0
  | 1, _ => c_1
  | 2, _ => c_2
  | 3, _ => c_3
  | 4, _ => c_4
  | 5, _ => c_5
  | 6, _ => c_6
  | 7, _ => c_7
  | 8, _ => c_8
  | 9, _ => c_9
  | 10, _ => c_10
  | 11, _ => c_11
  | 12, _ => c_12
  | 13, _ => c_13
  | 14, _ => c_14
  | 15, _ => c_15
  | 16, _ => c_16
  | 17, _ => c_17
  | 18, _ => c_18
  | 19, _ => c_19
  | n + 20, h => absurd h (by omega)
theorem spansLine_walk (W : World) (a0 : Int) (h0 : In64 a0) (a1 : Bool) : Calls Try.prog 3 #[.int .i64 a0, .bool a1] W fun e w' => e = .returned (.bool true) ∧ Below W.heap.size W w' := by
  obtain ⟨r0, l0, e0⟩ := pick_case a0 20 (by omega)
  have hr := ((c r0 l0) a1)
  refine run_true (envB (A := fun i => match i with | 0 => a0 | _ => 0) ?_) hr W _ ?_
  · intro i m r hm
    simp only [List.mem_cons, List.not_mem_nil, or_false, Prod.mk.injEq] at hm
    rcases hm with ⟨⟨rfl, rfl⟩, rfl⟩
    · exact ⟨h0, by simp only [Int.ofNat_eq_natCast]; omega, by simp only [Int.ofNat_eq_natCast]; omega, e0⟩
  · exact (.cons rfl (.cons rfl .nil))
end Go.Proofs.Ytgikghbgdpcapaa.spansLine
