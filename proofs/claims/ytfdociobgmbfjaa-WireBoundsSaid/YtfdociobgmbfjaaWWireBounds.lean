/- The statement 'WireBounds': its walk, from the runs of all cases. Conditions: ints of 64 bits. -/
import Derived.Test.YtfdociobgmbfjaaRWireBoundsA
namespace Go.Proofs.Ytfdociobgmbfjaa.wireBounds
open Go Go.RowKit Go.Proofs.Ytfdociobgmbfjaa.Ev
set_option linter.unusedVariables false
theorem c : ∀ w : Nat, w < 4 → R w = true
  | 0, _ => g_0
  | 1, _ => g_1
  | 2, _ => g_2
  | 3, _ => g_3
  | n + 4, h => absurd h (by omega)
theorem wireBounds_walk (W : World) (a0 : Int) (h0 : In64 a0) (a1 : Int) (h1 : In64 a1) : Calls Try.prog 3 #[.int .i64 a0, .int .i64 a1] W fun e w' => e = .returned (.bool true) ∧ Below W.heap.size W w' := by
  obtain ⟨r0, l0, e0⟩ := pick_case a0 4 (by omega)
  have hr := (c r0 l0)
  refine run_true (env (A := fun i => match i with | 0 => a0 | 1 => a1 | 100 => pick a1 (Int.ofNat 1000) | _ => 0) ?_) hr W _ ?_
  · intro i m r hm
    simp only [List.mem_cons, List.not_mem_nil, or_false, Prod.mk.injEq] at hm
    rcases hm with ⟨⟨rfl, rfl⟩, rfl⟩ | ⟨⟨rfl, rfl⟩, rfl⟩
    · exact ⟨h0, by simp only [Int.ofNat_eq_natCast]; omega, by simp only [Int.ofNat_eq_natCast]; omega, e0⟩
    · exact ⟨h1, by simp only [Int.ofNat_eq_natCast]; omega, by simp only [Int.ofNat_eq_natCast]; omega, bnd_case _ a1 100 999 1000 rfl rfl⟩
  · exact (.cons rfl (.cons rfl .nil))
end Go.Proofs.Ytfdociobgmbfjaa.wireBounds
