/- The statement 'HomesClaimed': its walk, from the runs of all cases. Conditions: ints of 64 bits. -/
import Derived.Test.YtgikghbgdpcapaaRHomesClaimedA
import Derived.Test.YtgikghbgdpcapaaRHomesClaimedB
import Derived.Test.YtgikghbgdpcapaaRHomesClaimedC
import Derived.Test.YtgikghbgdpcapaaRHomesClaimedD
namespace Go.Proofs.Ytgikghbgdpcapaa.homesClaimed
open Go Go.RowKit Go.Proofs.Ytgikghbgdpcapaa.Ev
set_option linter.unusedVariables false
theorem c_0 : ∀ r : Nat, r < 5 → up 3 (fun a => R 0 r a) = true
  | 0, _ => g_0_0
  | 1, _ => g_0_1
  | 2, _ => g_0_2
  | 3, _ => g_0_3
  | 4, _ => g_0_4
  | n + 5, h => absurd h (by omega)
theorem c_1 : ∀ r : Nat, r < 5 → up 3 (fun a => R 1 r a) = true
  | 0, _ => g_1_0
  | 1, _ => g_1_1
  | 2, _ => g_1_2
  | 3, _ => g_1_3
  | 4, _ => g_1_4
  | n + 5, h => absurd h (by omega)
theorem c_2 : ∀ r : Nat, r < 5 → up 3 (fun a => R 2 r a) = true
  | 0, _ => g_2_0
  | 1, _ => g_2_1
  | 2, _ => g_2_2
  | 3, _ => g_2_3
  | 4, _ => g_2_4
  | n + 5, h => absurd h (by omega)
theorem c_3 : ∀ r : Nat, r < 5 → up 3 (fun a => R 3 r a) = true
  | 0, _ => g_3_0
  | 1, _ => g_3_1
  | 2, _ => g_3_2
  | 3, _ => g_3_3
  | 4, _ => g_3_4
  | n + 5, h => absurd h (by omega)
theorem c_4 : ∀ r : Nat, r < 5 → up 3 (fun a => R 4 r a) = true
  | 0, _ => g_4_0
  | 1, _ => g_4_1
  | 2, _ => g_4_2
  | 3, _ => g_4_3
  | 4, _ => g_4_4
  | n + 5, h => absurd h (by omega)
theorem c : ∀ n : Nat, n < 5 → ∀ r : Nat, r < 5 → up 3 (fun a => R n r a) = true
  | 0, _ => c_0
  | 1, _ => c_1
  | 2, _ => c_2
  | 3, _ => c_3
  | 4, _ => c_4
  | n + 5, h => absurd h (by omega)
theorem homesClaimed_walk (W : World) (a0 : Int) (h0 : In64 a0) (a1 : Int) (h1 : In64 a1) (a2 : Int) (h2 : In64 a2) : Calls Try.prog 11 #[.int .i64 a0, .int .i64 a1, .int .i64 a2] W fun e w' => e = .returned (.bool true) ∧ Below W.heap.size W w' := by
  obtain ⟨r0, l0, e0⟩ := pick_case a0 5 (by omega)
  obtain ⟨r1, l1, e1⟩ := pick_case a1 5 (by omega)
  obtain ⟨r2, l2, e2⟩ := pick_case a2 3 (by omega)
  have hr := (up_all ((c r0 l0) r1 l1) r2 l2)
  refine run_true (envB (A := fun i => match i with | 0 => a0 | 1 => a1 | 2 => a2 | _ => 0) ?_) hr W _ ?_
  · intro i m r hm
    simp only [List.mem_cons, List.not_mem_nil, or_false, Prod.mk.injEq] at hm
    rcases hm with ⟨⟨rfl, rfl⟩, rfl⟩ | ⟨⟨rfl, rfl⟩, rfl⟩ | ⟨⟨rfl, rfl⟩, rfl⟩
    · exact ⟨h0, by simp only [Int.ofNat_eq_natCast]; omega, by simp only [Int.ofNat_eq_natCast]; omega, e0⟩
    · exact ⟨h1, by simp only [Int.ofNat_eq_natCast]; omega, by simp only [Int.ofNat_eq_natCast]; omega, e1⟩
    · exact ⟨h2, by simp only [Int.ofNat_eq_natCast]; omega, by simp only [Int.ofNat_eq_natCast]; omega, e2⟩
  · exact (.cons rfl (.cons rfl (.cons rfl .nil)))
end Go.Proofs.Ytgikghbgdpcapaa.homesClaimed
