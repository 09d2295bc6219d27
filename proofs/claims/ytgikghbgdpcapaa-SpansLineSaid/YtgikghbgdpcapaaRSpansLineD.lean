/- The statement 'SpansLine', case by case: each run answers true. Conditions: none. -/
import Derived.Test.YtgikghbgdpcapaaRDSpansLine
import Derived.KernelRfl
namespace Go.Proofs.Ytgikghbgdpcapaa.spansLine
open Go Go.Proofs.Ytgikghbgdpcapaa.Ev
theorem g_15_true : (R 15 true) = true := by kernel_rfl
theorem g_15_false : (R 15 false) = true := by kernel_rfl
theorem g_16_true : (R 16 true) = true := by kernel_rfl
theorem g_16_false : (R 16 false) = true := by kernel_rfl
theorem g_17_true : (R 17 true) = true := by kernel_rfl
theorem g_17_false : (R 17 false) = true := by kernel_rfl
theorem g_18_true : (R 18 true) = true := by kernel_rfl
theorem g_18_false : (R 18 false) = true := by kernel_rfl
theorem g_19_true : (R 19 true) = true := by kernel_rfl
theorem g_19_false : (R 19 false) = true := by kernel_rfl
end Go.Proofs.Ytgikghbgdpcapaa.spansLine
