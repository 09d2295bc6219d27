/- The statement 'AllocTight', case by case: each run answers true. Conditions: none. -/
import Derived.Test.YtmafghjodghgcaaGreatRDAllocTight
import Derived.KernelRfl
namespace Go.Proofs.YtmafghjodghgcaaGreat.allocTight
open Go Go.Proofs.YtmafghjodghgcaaGreat.Ev
theorem g_6_0_0 : (R 6 0 0) = true := by kernel_rfl
theorem g_6_0_1 : (R 6 0 1) = true := by kernel_rfl
theorem g_6_0_2 : (R 6 0 2) = true := by kernel_rfl
theorem g_6_1_0 : (R 6 1 0) = true := by kernel_rfl
theorem g_6_1_1 : (R 6 1 1) = true := by kernel_rfl
theorem g_6_1_2 : (R 6 1 2) = true := by kernel_rfl
theorem g_7_0_0 : (R 7 0 0) = true := by kernel_rfl
theorem g_7_0_1 : (R 7 0 1) = true := by kernel_rfl
theorem g_7_0_2 : (R 7 0 2) = true := by kernel_rfl
theorem g_7_1_0 : (R 7 1 0) = true := by kernel_rfl
theorem g_7_1_1 : (R 7 1 1) = true := by kernel_rfl
theorem g_7_1_2 : (R 7 1 2) = true := by kernel_rfl
theorem g_8_0_0 : (R 8 0 0) = true := by kernel_rfl
theorem g_8_0_1 : (R 8 0 1) = true := by kernel_rfl
theorem g_8_0_2 : (R 8 0 2) = true := by kernel_rfl
theorem g_8_1_0 : (R 8 1 0) = true := by kernel_rfl
theorem g_8_1_1 : (R 8 1 1) = true := by kernel_rfl
theorem g_8_1_2 : (R 8 1 2) = true := by kernel_rfl
end Go.Proofs.YtmafghjodghgcaaGreat.allocTight
