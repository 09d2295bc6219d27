/- The statement 'SpoilsOrder', case by case: each run answers true. Conditions: none. -/
import Derived.Test.YtgmhjkfejcaacaaRDSpoilsOrder
import Derived.KernelRfl
namespace Go.Proofs.Ytgmhjkfejcaacaa.spoilsOrder
open Go Go.Proofs.Ytgmhjkfejcaacaa.Ev
theorem g_0_4 : (up 2 (fun c => up 10 (fun d => R 0 4 c d))) = true := by kernel_rfl
theorem g_0_5 : (up 2 (fun c => up 10 (fun d => R 0 5 c d))) = true := by kernel_rfl
theorem g_0_6 : (up 2 (fun c => up 10 (fun d => R 0 6 c d))) = true := by kernel_rfl
theorem g_0_7 : (up 2 (fun c => up 10 (fun d => R 0 7 c d))) = true := by kernel_rfl
end Go.Proofs.Ytgmhjkfejcaacaa.spoilsOrder
