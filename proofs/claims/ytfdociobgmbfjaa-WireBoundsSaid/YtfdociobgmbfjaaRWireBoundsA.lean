/- The statement 'WireBounds', case by case: each run answers true. Conditions: none. -/
import Derived.Test.YtfdociobgmbfjaaRDWireBounds
import Derived.KernelRfl
namespace Go.Proofs.Ytfdociobgmbfjaa.wireBounds
open Go Go.Proofs.Ytfdociobgmbfjaa.Ev
theorem g_0 : (R 0) = true := by kernel_rfl
theorem g_1 : (R 1) = true := by kernel_rfl
theorem g_2 : (R 2) = true := by kernel_rfl
theorem g_3 : (R 3) = true := by kernel_rfl
end Go.Proofs.Ytfdociobgmbfjaa.wireBounds
