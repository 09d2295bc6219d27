/- The statement 'MachJunk': its walk, from the runs of all cases. Conditions: ints of 64 bits. -/
import Derived.Test.YtomkaghofeklcaaRMachJunkA
namespace Go.Proofs.Ytomkaghofeklcaa.machJunk
open Go Go.RowKit Go.Proofs.Ytomkaghofeklcaa.Ev
set_option linter.unusedVariables false
theorem c : ∀ n : Nat, n < 5 → R n = true
  | 0, _ => g_0
  | 1, _ => g_1
  | 2, _ => g_2
  | 3, _ => g_3
  | 4, _ => g_4
  | n + 5, h => absurd h (by omega)
theorem machJunk_walk (W : World) (a0 : Int) (h0 : In64 a0) (a1 : Int) (h1 : In64 a1) : Calls Try.prog 4 #[.int .i64 a0, .int .i64 a1] W fun e w' => e = .returned (.bool true) ∧ Below W.heap.size W w' := by
  obtain ⟨r0, l0, e0⟩ := pick_case a0 5 (by omega)
  have hr := (c r0 l0)
  refine run_true (envM (A := fun i => match i with | 0 => a0 | 1 => a1 | _ => 0) ?_) hr (conOk_none W) _ ?_
  · intro i m r hm
    simp only [List.mem_cons, List.not_mem_nil, or_false, Prod.mk.injEq] at hm
    rcases hm with ⟨⟨rfl, rfl⟩, rfl⟩
    · exact ⟨h0, by simp only [Int.ofNat_eq_natCast]; omega, by simp only [Int.ofNat_eq_natCast]; omega, e0⟩
  · exact (.cons rfl (.cons rfl .nil))
end Go.Proofs.Ytomkaghofeklcaa.machJunk
