/- The statement 'AllocSwap', case by case: each run answers true. Conditions: none. -/
import Derived.Test.YtmafghjodghgcaaGreatRDAllocSwap
import Derived.KernelRfl
namespace Go.Proofs.YtmafghjodghgcaaGreat.allocSwap
open Go Go.Proofs.YtmafghjodghgcaaGreat.Ev
theorem g_0_0 : (R 0 0) = true := by kernel_rfl
theorem g_0_1 : (R 0 1) = true := by kernel_rfl
theorem g_1_0 : (R 1 0) = true := by kernel_rfl
theorem g_1_1 : (R 1 1) = true := by kernel_rfl
theorem g_2_0 : (R 2 0) = true := by kernel_rfl
theorem g_2_1 : (R 2 1) = true := by kernel_rfl
end Go.Proofs.YtmafghjodghgcaaGreat.allocSwap
