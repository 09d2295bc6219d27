/- The statement 'SpansLine', case by case: each run answers true. Conditions: none. -/
import Derived.Test.YtgikghbgdpcapaaRDSpansLine
import Derived.KernelRfl
namespace Go.Proofs.Ytgikghbgdpcapaa.spansLine
open Go Go.Proofs.Ytgikghbgdpcapaa.Ev
theorem g_0_true : (R 0 true) = true := by kernel_rfl
theorem g_0_false : (R 0 false) = true := by kernel_rfl
theorem g_1_true : (R 1 true) = true := by kernel_rfl
theorem g_1_false : (R 1 false) = true := by kernel_rfl
theorem g_2_true : (R 2 true) = true := by kernel_rfl
theorem g_2_false : (R 2 false) = true := by kernel_rfl
theorem g_3_true : (R 3 true) = true := by kernel_rfl
theorem g_3_false : (R 3 false) = true := by kernel_rfl
theorem g_4_true : (R 4 true) = true := by kernel_rfl
theorem g_4_false : (R 4 false) = true := by kernel_rfl
end Go.Proofs.Ytgikghbgdpcapaa.spansLine
