/- The statement 'GroupsRing': its walk, from the runs of all cases. Conditions: ints of 64 bits. -/
import Derived.Test.YtgikghbgdpcapaaRGroupsRingA
import Derived.Test.YtgikghbgdpcapaaRGroupsRingB
namespace Go.Proofs.Ytgikghbgdpcapaa.groupsRing
open Go Go.RowKit Go.Proofs.Ytgikghbgdpcapaa.Ev
set_option linter.unusedVariables false
theorem c : ∀ n : Nat, n < 20 → R n = true
  | 0, _ => g_0
  | 1, _ => g_1
  | 2, _ => g_2
  | 3, _ => g_3
  | 4, _ => g_4
  | 5, _ => g_5
  | 6, _ => g_6
  | 7, _ => g_7
  | 8, _ => g_8
  | 9, _ => g_9
  | 10, _ => g_10
  | 11, _ => g_11
  | 12, _ => g_12
  | 13, _ => g_13
  | 14, _ => g_14
  | 15, _ => g_15
  | 16, _ => g_16
  | 17, _ => g_17
  | 18, _ => g_18
  | 19, _ => g_19
  | n + 20, h => absurd h (by omega)
theorem groupsRing_walk (W : World) (a0 : Int) (h0 : In64 a0) : Calls Try.prog 8 #[.int .i64 a0] W fun e w' => e = .returned (.bool true) ∧ Below W.heap.size W w' := by
  obtain ⟨r0, l0, e0⟩ := pick_case a0 20 (by omega)
  have hr := (c r0 l0)
  refine run_true (withT_env (withT_env (envB (A := fun i => match i with | 0 => a0 | _ => 0) ?_) ok0) ok1) hr (conOk_none W) _ ?_
  · intro i m r hm
    simp only [List.mem_cons, List.not_mem_nil, or_false, Prod.mk.injEq] at hm
    rcases hm with ⟨⟨rfl, rfl⟩, rfl⟩
    · exact ⟨h0, by simp only [Int.ofNat_eq_natCast]; omega, by simp only [Int.ofNat_eq_natCast]; omega, e0⟩
  · exact (.cons rfl .nil)
end Go.Proofs.Ytgikghbgdpcapaa.groupsRing
