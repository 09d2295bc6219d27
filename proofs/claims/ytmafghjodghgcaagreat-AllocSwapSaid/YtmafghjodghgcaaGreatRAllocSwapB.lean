/- The statement 'AllocSwap', case by case: each run answers true. Conditions: none. -/
import Derived.Test.YtmafghjodghgcaaGreatRDAllocSwap
import Derived.KernelRfl
namespace Go.Proofs.YtmafghjodghgcaaGreat.allocSwap
open Go Go.Proofs.YtmafghjodghgcaaGreat.Ev
theorem g_3_0 : (R 3 0) = true := by kernel_rfl
theorem g_3_1 : (R 3 1) = true := by kernel_rfl
theorem g_4_0 : (R 4 0) = true := by kernel_rfl
theorem g_4_1 : (R 4 1) = true := by kernel_rfl
theorem g_5_0 : (R 5 0) = true := by kernel_rfl
theorem g_5_1 : (R 5 1) = true := by kernel_rfl
end Go.Proofs.YtmafghjodghgcaaGreat.allocSwap
