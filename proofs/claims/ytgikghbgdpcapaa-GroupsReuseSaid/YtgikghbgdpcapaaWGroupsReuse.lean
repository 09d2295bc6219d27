/- The statement 'GroupsReuse': its walk, from the runs of all cases. Conditions: ints of 64 bits. -/
import Derived.Test.YtgikghbgdpcapaaRGroupsReuseA
import Derived.Test.YtgikghbgdpcapaaRGroupsReuseB
namespace Go.Proofs.Ytgikghbgdpcapaa.groupsReuse
open Go Go.RowKit Go.Proofs.Ytgikghbgdpcapaa.Ev
set_option linter.unusedVariables false
theorem c_0 : ∀ l : Bool, R 0 l = true
  | true => g_0_true
  | false => g_0_false
theorem c_1 : ∀ l : Bool, R 1 l = true
  | true => g_1_true
  | false => g_1_false
theorem c_2 : ∀ l : Bool, R 2 l = true
  | true => g_2_true
  | false => g_2_false
theorem c_3 : ∀ l : Bool, R 3 l = true
  | true => g_3_true
  | false => g_3_false
theorem c_4 : ∀ l : Bool, R 4 l = true
  | true => g_4_true
  | false => g_4_false
theorem c_5 : ∀ l : Bool, R 5 l = true
  | true => g_5_true
  | false => g_5_false
theorem c_6 : ∀ l : Bool, R 6 l = true
  | true => g_6_true
  | false => g_6_false
theorem c_7 : ∀ l : Bool, R 7 l = true
  | true => g_7_true
  | false => g_7_false
theorem c_8 : ∀ l : Bool, R 8 l = true
  | true => g_8_true
  | false => g_8_false
theorem c_9 : ∀ l : Bool, R 9 l = true
  | true => g_9_true
  | false => g_9_false
theorem c : ∀ n : Nat, n < 10 → ∀ l : Bool, R n l = true
  | 0, _ => c_0
  | 1, _ => c_1
  | 2, _ => c_2
  | 3, _ => c_3
  | 4, _ => c_4
  | 5, _ => c_5
  | 6, _ => c_6
  | 7, _ => c_7
  | 8, _ => c_8
  | 9, _ => c_9
  | n + 10, h => absurd h (by omega)
theorem groupsReuse_walk (W : World) (a0 : Int) (h0 : In64 a0) (a1 : Bool) : Calls Try.prog 9 #[.int .i64 a0, .bool a1] W fun e w' => e = .returned (.bool true) ∧ Below W.heap.size W w' := by
  obtain ⟨r0, l0, e0⟩ := pick_case a0 10 (by omega)
  have hr := ((c r0 l0) a1)
  refine run_true (envB (A := fun i => match i with | 0 => a0 | _ => 0) ?_) hr W _ ?_
  · intro i m r hm
    simp only [List.mem_cons, List.not_mem_nil, or_false, Prod.mk.injEq] at hm
    rcases hm with ⟨⟨rfl, rfl⟩, rfl⟩
    · exact ⟨h0, by simp only [Int.ofNat_eq_natCast]; omega, by simp only [Int.ofNat_eq_natCast]; omega, e0⟩
  · exact (.cons rfl (.cons rfl .nil))
end Go.Proofs.Ytgikghbgdpcapaa.groupsReuse
