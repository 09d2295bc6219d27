/- The statement 'JudgeWays', case by case: each run answers true. Conditions: none. -/
import Derived.Test.YtomkaghofeklcaaRDJudgeWays
import Derived.KernelRfl
namespace Go.Proofs.Ytomkaghofeklcaa.judgeWays
open Go Go.Proofs.Ytomkaghofeklcaa.Ev
theorem g_1_1_2 : (R 1 1 2) = true := by kernel_rfl
theorem g_1_2_0 : (R 1 2 0) = true := by kernel_rfl
theorem g_1_2_1 : (R 1 2 1) = true := by kernel_rfl
theorem g_1_2_2 : (R 1 2 2) = true := by kernel_rfl
theorem g_2_0_0 : (R 2 0 0) = true := by kernel_rfl
theorem g_2_0_1 : (R 2 0 1) = true := by kernel_rfl
theorem g_2_0_2 : (R 2 0 2) = true := by kernel_rfl
theorem g_2_1_0 : (R 2 1 0) = true := by kernel_rfl
theorem g_2_1_1 : (R 2 1 1) = true := by kernel_rfl
theorem g_2_1_2 : (R 2 1 2) = true := by kernel_rfl
theorem g_2_2_0 : (R 2 2 0) = true := by kernel_rfl
theorem g_2_2_1 : (R 2 2 1) = true := by kernel_rfl
theorem g_2_2_2 : (R 2 2 2) = true := by kernel_rfl
end Go.Proofs.Ytomkaghofeklcaa.judgeWays
