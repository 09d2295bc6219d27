/- The statement 'AllocTight', case by case: each run answers true. Conditions: none. -/
import Derived.Test.YtmafghjodghgcaaGreatRDAllocTight
import Derived.KernelRfl
namespace Go.Proofs.YtmafghjodghgcaaGreat.allocTight
open Go Go.Proofs.YtmafghjodghgcaaGreat.Ev
theorem g_0_0_0 : (R 0 0 0) = true := by kernel_rfl
theorem g_0_0_1 : (R 0 0 1) = true := by kernel_rfl
theorem g_0_0_2 : (R 0 0 2) = true := by kernel_rfl
theorem g_0_1_0 : (R 0 1 0) = true := by kernel_rfl
theorem g_0_1_1 : (R 0 1 1) = true := by kernel_rfl
theorem g_0_1_2 : (R 0 1 2) = true := by kernel_rfl
theorem g_1_0_0 : (R 1 0 0) = true := by kernel_rfl
theorem g_1_0_1 : (R 1 0 1) = true := by kernel_rfl
theorem g_1_0_2 : (R 1 0 2) = true := by kernel_rfl
theorem g_1_1_0 : (R 1 1 0) = true := by kernel_rfl
theorem g_1_1_1 : (R 1 1 1) = true := by kernel_rfl
theorem g_1_1_2 : (R 1 1 2) = true := by kernel_rfl
theorem g_2_0_0 : (R 2 0 0) = true := by kernel_rfl
theorem g_2_0_1 : (R 2 0 1) = true := by kernel_rfl
theorem g_2_0_2 : (R 2 0 2) = true := by kernel_rfl
theorem g_2_1_0 : (R 2 1 0) = true := by kernel_rfl
theorem g_2_1_1 : (R 2 1 1) = true := by kernel_rfl
theorem g_2_1_2 : (R 2 1 2) = true := by kernel_rfl
end Go.Proofs.YtmafghjodghgcaaGreat.allocTight
