/- The statement 'SpansLine', case by case: each run answers true. Conditions: none. -/
import Derived.Test.YtgikghbgdpcapaaRDSpansLine
import Derived.KernelRfl
namespace Go.Proofs.Ytgikghbgdpcapaa.spansLine
open Go Go.Proofs.Ytgikghbgdpcapaa.Ev
theorem g_5_true : (R 5 true) = true := by kernel_rfl
theorem g_5_false : (R 5 false) = true := by kernel_rfl
theorem g_6_true : (R 6 true) = true := by kernel_rfl
theorem g_6_false : (R 6 false) = true := by kernel_rfl
theorem g_7_true : (R 7 true) = true := by kernel_rfl
theorem g_7_false : (R 7 false) = true := by kernel_rfl
theorem g_8_true : (R 8 true) = true := by kernel_rfl
theorem g_8_false : (R 8 false) = true := by kernel_rfl
theorem g_9_true : (R 9 true) = true := by kernel_rfl
theorem g_9_false : (R 9 false) = true := by kernel_rfl
end Go.Proofs.Ytgikghbgdpcapaa.spansLine
