/- The statement 'SpoilsOrder', case by case: each run answers true. Conditions: none. -/
import Derived.Test.YtgmhjkfejcaacaaRDSpoilsOrder
import Derived.KernelRfl
namespace Go.Proofs.Ytgmhjkfejcaacaa.spoilsOrder
open Go Go.Proofs.Ytgmhjkfejcaacaa.Ev
theorem g_1_6 : (up 2 (fun c => up 10 (fun d => R 1 6 c d))) = true := by kernel_rfl
theorem g_1_7 : (up 2 (fun c => up 10 (fun d => R 1 7 c d))) = true := by kernel_rfl
theorem g_1_8 : (up 2 (fun c => up 10 (fun d => R 1 8 c d))) = true := by kernel_rfl
theorem g_1_9 : (up 2 (fun c => up 10 (fun d => R 1 9 c d))) = true := by kernel_rfl
end Go.Proofs.Ytgmhjkfejcaacaa.spoilsOrder
