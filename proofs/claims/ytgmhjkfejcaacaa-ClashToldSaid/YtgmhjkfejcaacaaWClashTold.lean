/- The statement 'ClashTold': its walk, from the runs of all cases. Conditions: ints of 64 bits. -/
import Derived.Test.YtgmhjkfejcaacaaRClashToldA
namespace Go.Proofs.Ytgmhjkfejcaacaa.clashTold
open Go Go.RowKit Go.Proofs.Ytgmhjkfejcaacaa.Ev
set_option linter.unusedVariables false
theorem c : ∀ n : Nat, n < 10 → both (fun l => up 3 (fun w => R n l w)) = true
  | 0, _ => g_0
  | 1, _ => g_1
  | 2, _ => g_2
  | 3, _ => g_3
  | 4, _ => g_4
  | 5, _ => g_5
  | 6, _ => g_6
  | 7, _ => g_7
  | 8, _ => g_8
  | 9, _ => g_9
  | n + 10, h => absurd h (by omega)
theorem clashTold_walk (W : World) (a0 : Int) (h0 : In64 a0) (a1 : Bool) (a2 : Int) (h2 : In64 a2) : Calls Try.prog 6 #[.int .i64 a0, .bool a1, .int .i64 a2] W fun e w' => e = .returned (.bool true) ∧ Below W.heap.size W w' := by
  obtain ⟨r0, l0, e0⟩ := pick_case a0 10 (by omega)
  obtain ⟨r2, l2, e2⟩ := pick_case a2 3 (by omega)
  have hr := (up_all (both_all (c r0 l0) a1) r2 l2)
  refine run_true (env (A := fun i => match i with | 0 => a0 | 2 => a2 | _ => 0) ?_) hr W _ ?_
  · intro i m r hm
    simp only [List.mem_cons, List.not_mem_nil, or_false, Prod.mk.injEq] at hm
    rcases hm with ⟨⟨rfl, rfl⟩, rfl⟩ | ⟨⟨rfl, rfl⟩, rfl⟩
    · exact ⟨h0, by simp only [Int.ofNat_eq_natCast]; omega, by simp only [Int.ofNat_eq_natCast]; omega, e0⟩
    · exact ⟨h2, by simp only [Int.ofNat_eq_natCast]; omega, by simp only [Int.ofNat_eq_natCast]; omega, e2⟩
  · exact (.cons rfl (.cons rfl (.cons rfl .nil)))
end Go.Proofs.Ytgmhjkfejcaacaa.clashTold
