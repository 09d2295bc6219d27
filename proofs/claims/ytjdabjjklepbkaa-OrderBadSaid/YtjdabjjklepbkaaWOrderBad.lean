/- The statement 'OrderBad': its walk, from the runs of all cases. Conditions: ints of 64 bits. -/
import Derived.Test.YtjdabjjklepbkaaROrderBadA
namespace Go.Proofs.Ytjdabjjklepbkaa.orderBad
open Go Go.RowKit Go.Proofs.Ytjdabjjklepbkaa.Ev
set_option linter.unusedVariables false
theorem c : ∀ a : Nat, a < 9 → up (2 + a) (fun n => up 4 (fun w => R a n w)) = true
  | 0, _ => g_0
  | 1, _ => g_1
  | 2, _ => g_2
  | 3, _ => g_3
  | 4, _ => g_4
  | 5, _ => g_5
  | 6, _ => g_6
  | 7, _ => g_7
  | 8, _ => g_8
  | n + 9, h => absurd h (by omega)
theorem orderBad_walk (W : World) (a0 : Int) (h0 : In64 a0) (a1 : Int) (h1 : In64 a1) (a2 : Int) (h2 : In64 a2) : Calls Try.prog 4 #[.int .i64 a0, .int .i64 a1, .int .i64 a2] W fun e w' => e = .returned (.bool true) ∧ Below W.heap.size W w' := by
  obtain ⟨r0, l0, e0⟩ := pick_case a0 9 (by omega)
  obtain ⟨r1, l1, e1⟩ := pick_case a1 (2 + r0) (by omega)
  obtain ⟨r2, l2, e2⟩ := pick_case a2 4 (by omega)
  have hr := (up_all (up_all (c r0 l0) r1 l1) r2 l2)
  refine run_true (env (A := fun i => match i with | 0 => a0 | 1 => a1 | 2 => a2 | _ => 0) ?_) hr W _ ?_
  · intro i m r hm
    simp only [List.mem_cons, List.not_mem_nil, or_false, Prod.mk.injEq] at hm
    rcases hm with ⟨⟨rfl, rfl⟩, rfl⟩ | ⟨⟨rfl, rfl⟩, rfl⟩ | ⟨⟨rfl, rfl⟩, rfl⟩
    · exact ⟨h0, by simp only [Int.ofNat_eq_natCast]; omega, by simp only [Int.ofNat_eq_natCast]; omega, e0⟩
    · exact ⟨h1, by simp only [Int.ofNat_eq_natCast]; omega, by simp only [Int.ofNat_eq_natCast]; omega, e1⟩
    · exact ⟨h2, by simp only [Int.ofNat_eq_natCast]; omega, by simp only [Int.ofNat_eq_natCast]; omega, e2⟩
  · exact (.cons rfl (.cons rfl (.cons rfl .nil)))
end Go.Proofs.Ytjdabjjklepbkaa.orderBad
