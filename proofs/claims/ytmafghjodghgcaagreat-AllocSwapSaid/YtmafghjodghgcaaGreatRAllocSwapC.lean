/- The statement 'AllocSwap', case by case: each run answers true. Conditions: none. -/
import Derived.Test.YtmafghjodghgcaaGreatRDAllocSwap
import Derived.KernelRfl
namespace Go.Proofs.YtmafghjodghgcaaGreat.allocSwap
open Go Go.Proofs.YtmafghjodghgcaaGreat.Ev
theorem g_6_0 : (R 6 0) = true := by kernel_rfl
theorem g_6_1 : (R 6 1) = true := by kernel_rfl
theorem g_7_0 : (R 7 0) = true := by kernel_rfl
theorem g_7_1 : (R 7 1) = true := by kernel_rfl
theorem g_8_0 : (R 8 0) = true := by kernel_rfl
theorem g_8_1 : (R 8 1) = true := by kernel_rfl
end Go.Proofs.YtmafghjodghgcaaGreat.allocSwap
