/- The statement 'SizesTold', case by case: each run answers true. Conditions: none. -/
import Derived.Test.YtgmhjkfejcaacaaRDSizesTold
import Derived.KernelRfl
namespace Go.Proofs.Ytgmhjkfejcaacaa.sizesTold
open Go Go.Proofs.Ytgmhjkfejcaacaa.Ev
theorem g_2_0 : (R 2 0) = true := by kernel_rfl
theorem g_2_1 : (R 2 1) = true := by kernel_rfl
theorem g_2_2 : (R 2 2) = true := by kernel_rfl
theorem g_2_3 : (R 2 3) = true := by kernel_rfl
theorem g_3_0 : (R 3 0) = true := by kernel_rfl
theorem g_3_1 : (R 3 1) = true := by kernel_rfl
theorem g_3_2 : (R 3 2) = true := by kernel_rfl
theorem g_3_3 : (R 3 3) = true := by kernel_rfl
end Go.Proofs.Ytgmhjkfejcaacaa.sizesTold
