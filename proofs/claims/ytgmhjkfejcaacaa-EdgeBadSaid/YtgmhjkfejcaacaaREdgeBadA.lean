/- The statement 'EdgeBad', case by case: each run answers true. Conditions: none. -/
import Derived.Test.YtgmhjkfejcaacaaRDEdgeBad
import Derived.KernelRfl
namespace Go.Proofs.Ytgmhjkfejcaacaa.edgeBad
open Go Go.Proofs.Ytgmhjkfejcaacaa.Ev
theorem g_0 : (R 0) = true := by kernel_rfl
theorem g_1 : (R 1) = true := by kernel_rfl
theorem g_2 : (R 2) = true := by kernel_rfl
theorem g_3 : (R 3) = true := by kernel_rfl
end Go.Proofs.Ytgmhjkfejcaacaa.edgeBad
