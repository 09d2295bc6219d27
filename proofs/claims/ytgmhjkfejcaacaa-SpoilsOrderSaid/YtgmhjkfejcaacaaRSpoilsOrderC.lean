/- The statement 'SpoilsOrder', case by case: each run answers true. Conditions: none. -/
import Derived.Test.YtgmhjkfejcaacaaRDSpoilsOrder
import Derived.KernelRfl
namespace Go.Proofs.Ytgmhjkfejcaacaa.spoilsOrder
open Go Go.Proofs.Ytgmhjkfejcaacaa.Ev
theorem g_0_8 : (up 2 (fun c => up 10 (fun d => R 0 8 c d))) = true := by kernel_rfl
theorem g_0_9 : (up 2 (fun c => up 10 (fun d => R 0 9 c d))) = true := by kernel_rfl
theorem g_1_0 : (up 2 (fun c => up 10 (fun d => R 1 0 c d))) = true := by kernel_rfl
theorem g_1_1 : (up 2 (fun c => up 10 (fun d => R 1 1 c d))) = true := by kernel_rfl
end Go.Proofs.Ytgmhjkfejcaacaa.spoilsOrder
