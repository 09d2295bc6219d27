/- The statement 'SizesTold', case by case: each run answers true. Conditions: none. -/
import Derived.Test.YtgmhjkfejcaacaaRDSizesTold
import Derived.KernelRfl
namespace Go.Proofs.Ytgmhjkfejcaacaa.sizesTold
open Go Go.Proofs.Ytgmhjkfejcaacaa.Ev
theorem g_0_0 : (R 0 0) = true := by kernel_rfl
theorem g_0_1 : (R 0 1) = true := by kernel_rfl
theorem g_0_2 : (R 0 2) = true := by kernel_rfl
theorem g_0_3 : (R 0 3) = true := by kernel_rfl
theorem g_1_0 : (R 1 0) = true := by kernel_rfl
theorem g_1_1 : (R 1 1) = true := by kernel_rfl
theorem g_1_2 : (R 1 2) = true := by kernel_rfl
theorem g_1_3 : (R 1 3) = true := by kernel_rfl
end Go.Proofs.Ytgmhjkfejcaacaa.sizesTold
