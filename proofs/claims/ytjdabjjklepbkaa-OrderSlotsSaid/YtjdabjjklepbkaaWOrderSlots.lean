/- The statement 'OrderSlots': its walk, from the runs of all cases. Conditions: ints of 64 bits. -/
import Derived.Test.YtjdabjjklepbkaaROrderSlotsA
import Derived.Test.YtjdabjjklepbkaaROrderSlotsB
namespace Go.Proofs.Ytjdabjjklepbkaa.orderSlots
open Go Go.RowKit Go.Proofs.Ytjdabjjklepbkaa.Ev
set_option linter.unusedVariables false
theorem c : ∀ n : Nat, n < 8 → up 2 (fun c => R n c) = true
  | 0, _ => g_0
  | 1, _ => g_1
  | 2, _ => g_2
  | 3, _ => g_3
  | 4, _ => g_4
  | 5, _ => g_5
  | 6, _ => g_6
  | 7, _ => g_7
  | n + 8, h => absurd h (by omega)
theorem orderSlots_walk (W : World) (a0 : Int) (h0 : In64 a0) (a1 : Int) (h1 : In64 a1) : Calls Try.prog 7 #[.int .i64 a0, .int .i64 a1] W fun e w' => e = .returned (.bool true) ∧ Below W.heap.size W w' := by
  obtain ⟨r0, l0, e0⟩ := pick_case a0 8 (by omega)
  obtain ⟨r1, l1, e1⟩ := pick_case a1 2 (by omega)
  have hr := (up_all (c r0 l0) r1 l1)
  refine run_true (env (A := fun i => match i with | 0 => a0 | 1 => a1 | _ => 0) ?_) hr W _ ?_
  · intro i m r hm
    simp only [List.mem_cons, List.not_mem_nil, or_false, Prod.mk.injEq] at hm
    rcases hm with ⟨⟨rfl, rfl⟩, rfl⟩ | ⟨⟨rfl, rfl⟩, rfl⟩
    · exact ⟨h0, by simp only [Int.ofNat_eq_natCast]; omega, by simp only [Int.ofNat_eq_natCast]; omega, e0⟩
    · exact ⟨h1, by simp only [Int.ofNat_eq_natCast]; omega, by simp only [Int.ofNat_eq_natCast]; omega, e1⟩
  · exact (.cons rfl (.cons rfl .nil))
end Go.Proofs.Ytjdabjjklepbkaa.orderSlots
