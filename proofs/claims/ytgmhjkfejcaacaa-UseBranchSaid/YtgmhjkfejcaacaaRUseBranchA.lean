/- The statement 'UseBranch', case by case: each run answers true. Conditions: none. -/
import Derived.Test.YtgmhjkfejcaacaaRDUseBranch
import Derived.KernelRfl
namespace Go.Proofs.Ytgmhjkfejcaacaa.useBranch
open Go Go.Proofs.Ytgmhjkfejcaacaa.Ev
theorem g_true : (R true) = true := by kernel_rfl
theorem g_false : (R false) = true := by kernel_rfl
end Go.Proofs.Ytgmhjkfejcaacaa.useBranch
