/- The statement 'AllocTight', case by case: each run answers true. Conditions: none. -/
import Derived.Test.YtmafghjodghgcaaGreatRDAllocTight
import Derived.KernelRfl
namespace Go.Proofs.YtmafghjodghgcaaGreat.allocTight
open Go Go.Proofs.YtmafghjodghgcaaGreat.Ev
theorem g_3_0_0 : (R 3 0 0) = true := by kernel_rfl
theorem g_3_0_1 : (R 3 0 1) = true := by kernel_rfl
theorem g_3_0_2 : (R 3 0 2) = true := by kernel_rfl
theorem g_3_1_0 : (R 3 1 0) = true := by kernel_rfl
theorem g_3_1_1 : (R 3 1 1) = true := by kernel_rfl
theorem g_3_1_2 : (R 3 1 2) = true := by kernel_rfl
theorem g_4_0_0 : (R 4 0 0) = true := by kernel_rfl
theorem g_4_0_1 : (R 4 0 1) = true := by kernel_rfl
theorem g_4_0_2 : (R 4 0 2) = true := by kernel_rfl
theorem g_4_1_0 : (R 4 1 0) = true := by kernel_rfl
theorem g_4_1_1 : (R 4 1 1) = true := by kernel_rfl
theorem g_4_1_2 : (R 4 1 2) = true := by kernel_rfl
theorem g_5_0_0 : (R 5 0 0) = true := by kernel_rfl
theorem g_5_0_1 : (R 5 0 1) = true := by kernel_rfl
theorem g_5_0_2 : (R 5 0 2) = true := by kernel_rfl
theorem g_5_1_0 : (R 5 1 0) = true := by kernel_rfl
theorem g_5_1_1 : (R 5 1 1) = true := by kernel_rfl
theorem g_5_1_2 : (R 5 1 2) = true := by kernel_rfl
end Go.Proofs.YtmafghjodghgcaaGreat.allocTight
