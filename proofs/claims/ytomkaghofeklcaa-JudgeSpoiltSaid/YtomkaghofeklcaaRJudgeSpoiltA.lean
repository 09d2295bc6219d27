/- The statement 'JudgeSpoilt', case by case: each run answers true. Conditions: none. -/
import Derived.Test.YtomkaghofeklcaaRDJudgeSpoilt
import Derived.KernelRfl
namespace Go.Proofs.Ytomkaghofeklcaa.judgeSpoilt
open Go Go.Proofs.Ytomkaghofeklcaa.Ev
theorem g_0_0 : (R 0 0) = true := by kernel_rfl
theorem g_0_1 : (R 0 1) = true := by kernel_rfl
theorem g_0_2 : (R 0 2) = true := by kernel_rfl
theorem g_0_3 : (R 0 3) = true := by kernel_rfl
theorem g_0_4 : (R 0 4) = true := by kernel_rfl
theorem g_1_0 : (R 1 0) = true := by kernel_rfl
theorem g_1_1 : (R 1 1) = true := by kernel_rfl
theorem g_1_2 : (R 1 2) = true := by kernel_rfl
theorem g_1_3 : (R 1 3) = true := by kernel_rfl
theorem g_1_4 : (R 1 4) = true := by kernel_rfl
theorem g_2_0 : (R 2 0) = true := by kernel_rfl
theorem g_2_1 : (R 2 1) = true := by kernel_rfl
theorem g_2_2 : (R 2 2) = true := by kernel_rfl
theorem g_2_3 : (R 2 3) = true := by kernel_rfl
theorem g_2_4 : (R 2 4) = true := by kernel_rfl
theorem g_3_0 : (R 3 0) = true := by kernel_rfl
theorem g_3_1 : (R 3 1) = true := by kernel_rfl
theorem g_3_2 : (R 3 2) = true := by kernel_rfl
theorem g_3_3 : (R 3 3) = true := by kernel_rfl
theorem g_3_4 : (R 3 4) = true := by kernel_rfl
theorem g_4_0 : (R 4 0) = true := by kernel_rfl
theorem g_4_1 : (R 4 1) = true := by kernel_rfl
theorem g_4_2 : (R 4 2) = true := by kernel_rfl
theorem g_4_3 : (R 4 3) = true := by kernel_rfl
theorem g_4_4 : (R 4 4) = true := by kernel_rfl
end Go.Proofs.Ytomkaghofeklcaa.judgeSpoilt
