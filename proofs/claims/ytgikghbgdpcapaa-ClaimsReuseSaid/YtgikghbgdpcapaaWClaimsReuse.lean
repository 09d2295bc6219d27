/- The statement 'ClaimsReuse': its walk, from the runs of all cases. Conditions: ints of 64 bits. -/
import Derived.Test.YtgikghbgdpcapaaRClaimsReuseA
namespace Go.Proofs.Ytgikghbgdpcapaa.claimsReuse
open Go Go.RowKit Go.Proofs.Ytgikghbgdpcapaa.Ev
set_option linter.unusedVariables false
theorem c : ∀ n : Nat, n < 8 → R n = true
  | 0, _ => g_0
  | 1, _ => g_1
  | 2, _ => g_2
  | 3, _ => g_3
  | 4, _ => g_4
  | 5, _ => g_5
  | 6, _ => g_6
  | 7, _ => g_7
  | n + 8, h => absurd h (by omega)
theorem claimsReuse_walk (W : World) (a0 : Int) (h0 : In64 a0) : Calls Try.prog 6 #[.int .i64 a0] W fun e w' => e = .returned (.bool true) ∧ Below W.heap.size W w' := by
  obtain ⟨r0, l0, e0⟩ := pick_case a0 8 (by omega)
  have hr := (c r0 l0)
  refine run_true (env (A := fun i => match i with | 0 => a0 | _ => 0) ?_) hr W _ ?_
  · intro i m r hm
    simp only [List.mem_cons, List.not_mem_nil, or_false, Prod.mk.injEq] at hm
    rcases hm with ⟨⟨rfl, rfl⟩, rfl⟩
    · exact ⟨h0, by simp only [Int.ofNat_eq_natCast]; omega, by simp only [Int.ofNat_eq_natCast]; omega, e0⟩
  · exact (.cons rfl .nil)
end Go.Proofs.Ytgikghbgdpcapaa.claimsReuse
