/- The statement 'RingTree', case by case: each run answers true. Conditions: none. -/
import Derived.Test.YtgmhjkfejcaacaaRDRingTree
import Derived.KernelRfl
namespace Go.Proofs.Ytgmhjkfejcaacaa.ringTree
open Go Go.Proofs.Ytgmhjkfejcaacaa.Ev
theorem g_0 : (R 0) = true := by kernel_rfl
theorem g_1 : (R 1) = true := by kernel_rfl
theorem g_2 : (R 2) = true := by kernel_rfl
theorem g_3 : (R 3) = true := by kernel_rfl
theorem g_4 : (R 4) = true := by kernel_rfl
theorem g_5 : (R 5) = true := by kernel_rfl
theorem g_6 : (R 6) = true := by kernel_rfl
theorem g_7 : (R 7) = true := by kernel_rfl
theorem g_8 : (R 8) = true := by kernel_rfl
theorem g_9 : (R 9) = true := by kernel_rfl
theorem g_10 : (R 10) = true := by kernel_rfl
theorem g_11 : (R 11) = true := by kernel_rfl
theorem g_12 : (R 12) = true := by kernel_rfl
theorem g_13 : (R 13) = true := by kernel_rfl
theorem g_14 : (R 14) = true := by kernel_rfl
theorem g_15 : (R 15) = true := by kernel_rfl
theorem g_16 : (R 16) = true := by kernel_rfl
theorem g_17 : (R 17) = true := by kernel_rfl
theorem g_18 : (R 18) = true := by kernel_rfl
theorem g_19 : (R 19) = true := by kernel_rfl
end Go.Proofs.Ytgmhjkfejcaacaa.ringTree
