/- The statement 'ShapeFull', case by case: each run answers true. Conditions: none. -/
import Derived.Test.YtgmhjkfejcaacaaRDShapeFull
import Derived.KernelRfl
namespace Go.Proofs.Ytgmhjkfejcaacaa.shapeFull
open Go Go.Proofs.Ytgmhjkfejcaacaa.Ev
theorem g_8_4 : (up (3 + 8) (fun s => R 8 4 s)) = true := by kernel_rfl
theorem g_8_5 : (up (3 + 8) (fun s => R 8 5 s)) = true := by kernel_rfl
theorem g_8_6 : (up (3 + 8) (fun s => R 8 6 s)) = true := by kernel_rfl
end Go.Proofs.Ytgmhjkfejcaacaa.shapeFull
