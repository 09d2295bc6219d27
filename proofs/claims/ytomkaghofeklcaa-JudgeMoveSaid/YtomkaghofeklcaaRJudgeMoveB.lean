/- The statement 'JudgeMove', case by case: each run answers true. Conditions: none. -/
import Derived.Test.YtomkaghofeklcaaRDJudgeMove
import Derived.KernelRfl
namespace Go.Proofs.Ytomkaghofeklcaa.judgeMove
open Go Go.Proofs.Ytomkaghofeklcaa.Ev
theorem g_1_0_0 : (R 1 0 0) = true := by kernel_rfl
theorem g_1_0_1 : (R 1 0 1) = true := by kernel_rfl
theorem g_1_0_2 : (R 1 0 2) = true := by kernel_rfl
theorem g_1_0_3 : (R 1 0 3) = true := by kernel_rfl
theorem g_1_0_4 : (R 1 0 4) = true := by kernel_rfl
theorem g_1_0_5 : (R 1 0 5) = true := by kernel_rfl
theorem g_1_0_6 : (R 1 0 6) = true := by kernel_rfl
theorem g_1_0_7 : (R 1 0 7) = true := by kernel_rfl
theorem g_1_0_8 : (R 1 0 8) = true := by kernel_rfl
theorem g_1_0_9 : (R 1 0 9) = true := by kernel_rfl
theorem g_1_0_10 : (R 1 0 10) = true := by kernel_rfl
theorem g_1_0_11 : (R 1 0 11) = true := by kernel_rfl
theorem g_1_0_12 : (R 1 0 12) = true := by kernel_rfl
theorem g_1_1_0 : (R 1 1 0) = true := by kernel_rfl
theorem g_1_1_1 : (R 1 1 1) = true := by kernel_rfl
theorem g_1_1_2 : (R 1 1 2) = true := by kernel_rfl
theorem g_1_1_3 : (R 1 1 3) = true := by kernel_rfl
theorem g_1_1_4 : (R 1 1 4) = true := by kernel_rfl
theorem g_1_1_5 : (R 1 1 5) = true := by kernel_rfl
theorem g_1_1_6 : (R 1 1 6) = true := by kernel_rfl
theorem g_1_1_7 : (R 1 1 7) = true := by kernel_rfl
theorem g_1_1_8 : (R 1 1 8) = true := by kernel_rfl
theorem g_1_1_9 : (R 1 1 9) = true := by kernel_rfl
theorem g_1_1_10 : (R 1 1 10) = true := by kernel_rfl
theorem g_1_1_11 : (R 1 1 11) = true := by kernel_rfl
theorem g_1_1_12 : (R 1 1 12) = true := by kernel_rfl
theorem g_1_2_0 : (R 1 2 0) = true := by kernel_rfl
theorem g_1_2_1 : (R 1 2 1) = true := by kernel_rfl
theorem g_1_2_2 : (R 1 2 2) = true := by kernel_rfl
theorem g_1_2_3 : (R 1 2 3) = true := by kernel_rfl
theorem g_1_2_4 : (R 1 2 4) = true := by kernel_rfl
theorem g_1_2_5 : (R 1 2 5) = true := by kernel_rfl
theorem g_1_2_6 : (R 1 2 6) = true := by kernel_rfl
theorem g_1_2_7 : (R 1 2 7) = true := by kernel_rfl
theorem g_1_2_8 : (R 1 2 8) = true := by kernel_rfl
theorem g_1_2_9 : (R 1 2 9) = true := by kernel_rfl
theorem g_1_2_10 : (R 1 2 10) = true := by kernel_rfl
theorem g_1_2_11 : (R 1 2 11) = true := by kernel_rfl
theorem g_1_2_12 : (R 1 2 12) = true := by kernel_rfl
end Go.Proofs.Ytomkaghofeklcaa.judgeMove
