/- The statement 'UseBranch': its walk, from the runs of all cases. Conditions: ints of 64 bits. -/
import Derived.Test.YtgmhjkfejcaacaaRUseBranchA
namespace Go.Proofs.Ytgmhjkfejcaacaa.useBranch
open Go Go.RowKit Go.Proofs.Ytgmhjkfejcaacaa.Ev
set_option linter.unusedVariables false
theorem c : ∀ b : Bool, R b = true
  | true => g_true
  | false => g_false
theorem useBranch_walk (W : World) (a0 : Bool) : Calls Try.prog 22 #[.bool a0] W fun e w' => e = .returned (.bool true) ∧ Below W.heap.size W w' := by
  have hr := (c a0)
  refine run_true (env (A := fun i => match i with  | _ => 0) ?_) hr W _ ?_
  · intro i m r hm
    cases hm
  · exact (.cons rfl .nil)
end Go.Proofs.Ytgmhjkfejcaacaa.useBranch
