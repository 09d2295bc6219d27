/- The statement 'PricesLine', case by case: each run answers true. Conditions: none. -/
import Derived.Test.YtgikghbgdpcapaaRDPricesLine
import Derived.KernelRfl
namespace Go.Proofs.Ytgikghbgdpcapaa.pricesLine
open Go Go.Proofs.Ytgikghbgdpcapaa.Ev
theorem g_20 : (R 20) = true := by kernel_rfl
theorem g_21 : (R 21) = true := by kernel_rfl
theorem g_22 : (R 22) = true := by kernel_rfl
theorem g_23 : (R 23) = true := by kernel_rfl
theorem g_24 : (R 24) = true := by kernel_rfl
theorem g_25 : (R 25) = true := by kernel_rfl
theorem g_26 : (R 26) = true := by kernel_rfl
theorem g_27 : (R 27) = true := by kernel_rfl
theorem g_28 : (R 28) = true := by kernel_rfl
theorem g_29 : (R 29) = true := by kernel_rfl
end Go.Proofs.Ytgikghbgdpcapaa.pricesLine
