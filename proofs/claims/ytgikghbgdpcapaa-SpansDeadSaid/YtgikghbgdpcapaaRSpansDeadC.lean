/- The statement 'SpansDead', case by case: each run answers true. Conditions: none. -/
import Derived.Test.YtgikghbgdpcapaaRDSpansDead
import Derived.KernelRfl
namespace Go.Proofs.Ytgikghbgdpcapaa.spansDead
open Go Go.Proofs.Ytgikghbgdpcapaa.Ev
theorem g_10_true : (R 10 true) = true := by kernel_rfl
theorem g_10_false : (R 10 false) = true := by kernel_rfl
theorem g_11_true : (R 11 true) = true := by kernel_rfl
theorem g_11_false : (R 11 false) = true := by kernel_rfl
theorem g_12_true : (R 12 true) = true := by kernel_rfl
theorem g_12_false : (R 12 false) = true := by kernel_rfl
theorem g_13_true : (R 13 true) = true := by kernel_rfl
theorem g_13_false : (R 13 false) = true := by kernel_rfl
theorem g_14_true : (R 14 true) = true := by kernel_rfl
theorem g_14_false : (R 14 false) = true := by kernel_rfl
end Go.Proofs.Ytgikghbgdpcapaa.spansDead
