/- The statement 'JudgeLimits', case by case: each run answers true. Conditions: none. -/
import Derived.Test.YtomkaghofeklcaaRDJudgeLimits
import Derived.KernelRfl
namespace Go.Proofs.Ytomkaghofeklcaa.judgeLimits
open Go Go.Proofs.Ytomkaghofeklcaa.Ev
theorem g_3_2_5 : (R 3 2 5) = true := by kernel_rfl
theorem g_3_2_6 : (R 3 2 6) = true := by kernel_rfl
theorem g_3_2_7 : (R 3 2 7) = true := by kernel_rfl
theorem g_3_2_8 : (R 3 2 8) = true := by kernel_rfl
theorem g_3_2_9 : (R 3 2 9) = true := by kernel_rfl
theorem g_3_2_10 : (R 3 2 10) = true := by kernel_rfl
theorem g_3_2_11 : (R 3 2 11) = true := by kernel_rfl
theorem g_3_2_12 : (R 3 2 12) = true := by kernel_rfl
theorem g_3_3_0 : (R 3 3 0) = true := by kernel_rfl
theorem g_3_3_1 : (R 3 3 1) = true := by kernel_rfl
theorem g_3_3_2 : (R 3 3 2) = true := by kernel_rfl
theorem g_3_3_3 : (R 3 3 3) = true := by kernel_rfl
theorem g_3_3_4 : (R 3 3 4) = true := by kernel_rfl
theorem g_3_3_5 : (R 3 3 5) = true := by kernel_rfl
theorem g_3_3_6 : (R 3 3 6) = true := by kernel_rfl
theorem g_3_3_7 : (R 3 3 7) = true := by kernel_rfl
theorem g_3_3_8 : (R 3 3 8) = true := by kernel_rfl
theorem g_3_3_9 : (R 3 3 9) = true := by kernel_rfl
theorem g_3_3_10 : (R 3 3 10) = true := by kernel_rfl
theorem g_3_3_11 : (R 3 3 11) = true := by kernel_rfl
theorem g_3_3_12 : (R 3 3 12) = true := by kernel_rfl
theorem g_3_4_0 : (R 3 4 0) = true := by kernel_rfl
theorem g_3_4_1 : (R 3 4 1) = true := by kernel_rfl
theorem g_3_4_2 : (R 3 4 2) = true := by kernel_rfl
theorem g_3_4_3 : (R 3 4 3) = true := by kernel_rfl
theorem g_3_4_4 : (R 3 4 4) = true := by kernel_rfl
theorem g_3_4_5 : (R 3 4 5) = true := by kernel_rfl
theorem g_3_4_6 : (R 3 4 6) = true := by kernel_rfl
theorem g_3_4_7 : (R 3 4 7) = true := by kernel_rfl
theorem g_3_4_8 : (R 3 4 8) = true := by kernel_rfl
theorem g_3_4_9 : (R 3 4 9) = true := by kernel_rfl
theorem g_3_4_10 : (R 3 4 10) = true := by kernel_rfl
theorem g_3_4_11 : (R 3 4 11) = true := by kernel_rfl
theorem g_3_4_12 : (R 3 4 12) = true := by kernel_rfl
end Go.Proofs.Ytomkaghofeklcaa.judgeLimits
