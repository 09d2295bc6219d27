/- The statement 'JudgeMove', case by case: each run answers true. Conditions: none. -/
import Derived.Test.YtomkaghofeklcaaRDJudgeMove
import Derived.KernelRfl
namespace Go.Proofs.Ytomkaghofeklcaa.judgeMove
open Go Go.Proofs.Ytomkaghofeklcaa.Ev
theorem g_2_0_0 : (R 2 0 0) = true := by kernel_rfl
theorem g_2_0_1 : (R 2 0 1) = true := by kernel_rfl
theorem g_2_0_2 : (R 2 0 2) = true := by kernel_rfl
theorem g_2_0_3 : (R 2 0 3) = true := by kernel_rfl
theorem g_2_0_4 : (R 2 0 4) = true := by kernel_rfl
theorem g_2_0_5 : (R 2 0 5) = true := by kernel_rfl
theorem g_2_0_6 : (R 2 0 6) = true := by kernel_rfl
theorem g_2_0_7 : (R 2 0 7) = true := by kernel_rfl
theorem g_2_0_8 : (R 2 0 8) = true := by kernel_rfl
theorem g_2_0_9 : (R 2 0 9) = true := by kernel_rfl
theorem g_2_0_10 : (R 2 0 10) = true := by kernel_rfl
theorem g_2_0_11 : (R 2 0 11) = true := by kernel_rfl
theorem g_2_0_12 : (R 2 0 12) = true := by kernel_rfl
theorem g_2_1_0 : (R 2 1 0) = true := by kernel_rfl
theorem g_2_1_1 : (R 2 1 1) = true := by kernel_rfl
theorem g_2_1_2 : (R 2 1 2) = true := by kernel_rfl
theorem g_2_1_3 : (R 2 1 3) = true := by kernel_rfl
theorem g_2_1_4 : (R 2 1 4) = true := by kernel_rfl
theorem g_2_1_5 : (R 2 1 5) = true := by kernel_rfl
theorem g_2_1_6 : (R 2 1 6) = true := by kernel_rfl
theorem g_2_1_7 : (R 2 1 7) = true := by kernel_rfl
theorem g_2_1_8 : (R 2 1 8) = true := by kernel_rfl
theorem g_2_1_9 : (R 2 1 9) = true := by kernel_rfl
theorem g_2_1_10 : (R 2 1 10) = true := by kernel_rfl
theorem g_2_1_11 : (R 2 1 11) = true := by kernel_rfl
theorem g_2_1_12 : (R 2 1 12) = true := by kernel_rfl
theorem g_2_2_0 : (R 2 2 0) = true := by kernel_rfl
theorem g_2_2_1 : (R 2 2 1) = true := by kernel_rfl
theorem g_2_2_2 : (R 2 2 2) = true := by kernel_rfl
theorem g_2_2_3 : (R 2 2 3) = true := by kernel_rfl
theorem g_2_2_4 : (R 2 2 4) = true := by kernel_rfl
theorem g_2_2_5 : (R 2 2 5) = true := by kernel_rfl
theorem g_2_2_6 : (R 2 2 6) = true := by kernel_rfl
theorem g_2_2_7 : (R 2 2 7) = true := by kernel_rfl
theorem g_2_2_8 : (R 2 2 8) = true := by kernel_rfl
theorem g_2_2_9 : (R 2 2 9) = true := by kernel_rfl
theorem g_2_2_10 : (R 2 2 10) = true := by kernel_rfl
theorem g_2_2_11 : (R 2 2 11) = true := by kernel_rfl
theorem g_2_2_12 : (R 2 2 12) = true := by kernel_rfl
end Go.Proofs.Ytomkaghofeklcaa.judgeMove
