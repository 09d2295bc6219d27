/- The statement 'JudgeLimits', case by case: each run answers true. Conditions: none. -/
import Derived.Test.YtomkaghofeklcaaRDJudgeLimits
import Derived.KernelRfl
namespace Go.Proofs.Ytomkaghofeklcaa.judgeLimits
open Go Go.Proofs.Ytomkaghofeklcaa.Ev
theorem g_0_0_0 : (R 0 0 0) = true := by kernel_rfl
theorem g_0_0_1 : (R 0 0 1) = true := by kernel_rfl
theorem g_0_0_2 : (R 0 0 2) = true := by kernel_rfl
theorem g_0_0_3 : (R 0 0 3) = true := by kernel_rfl
theorem g_0_0_4 : (R 0 0 4) = true := by kernel_rfl
theorem g_0_0_5 : (R 0 0 5) = true := by kernel_rfl
theorem g_0_0_6 : (R 0 0 6) = true := by kernel_rfl
theorem g_0_0_7 : (R 0 0 7) = true := by kernel_rfl
theorem g_0_0_8 : (R 0 0 8) = true := by kernel_rfl
theorem g_0_0_9 : (R 0 0 9) = true := by kernel_rfl
theorem g_0_0_10 : (R 0 0 10) = true := by kernel_rfl
theorem g_0_0_11 : (R 0 0 11) = true := by kernel_rfl
theorem g_0_0_12 : (R 0 0 12) = true := by kernel_rfl
theorem g_1_0_0 : (R 1 0 0) = true := by kernel_rfl
theorem g_1_0_1 : (R 1 0 1) = true := by kernel_rfl
theorem g_1_0_2 : (R 1 0 2) = true := by kernel_rfl
theorem g_1_0_3 : (R 1 0 3) = true := by kernel_rfl
theorem g_1_0_4 : (R 1 0 4) = true := by kernel_rfl
theorem g_1_0_5 : (R 1 0 5) = true := by kernel_rfl
theorem g_1_0_6 : (R 1 0 6) = true := by kernel_rfl
theorem g_1_0_7 : (R 1 0 7) = true := by kernel_rfl
theorem g_1_0_8 : (R 1 0 8) = true := by kernel_rfl
theorem g_1_0_9 : (R 1 0 9) = true := by kernel_rfl
theorem g_1_0_10 : (R 1 0 10) = true := by kernel_rfl
theorem g_1_0_11 : (R 1 0 11) = true := by kernel_rfl
theorem g_1_0_12 : (R 1 0 12) = true := by kernel_rfl
theorem g_2_0_0 : (R 2 0 0) = true := by kernel_rfl
theorem g_2_0_1 : (R 2 0 1) = true := by kernel_rfl
theorem g_2_0_2 : (R 2 0 2) = true := by kernel_rfl
theorem g_2_0_3 : (R 2 0 3) = true := by kernel_rfl
theorem g_2_0_4 : (R 2 0 4) = true := by kernel_rfl
theorem g_2_0_5 : (R 2 0 5) = true := by kernel_rfl
theorem g_2_0_6 : (R 2 0 6) = true := by kernel_rfl
theorem g_2_0_7 : (R 2 0 7) = true := by kernel_rfl
theorem g_2_0_8 : (R 2 0 8) = true := by kernel_rfl
end Go.Proofs.Ytomkaghofeklcaa.judgeLimits
