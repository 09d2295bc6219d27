/- The statement 'SpoilsOrder', case by case: each run answers true. Conditions: none. -/
import Derived.Test.YtgmhjkfejcaacaaRDSpoilsOrder
import Derived.KernelRfl
namespace Go.Proofs.Ytgmhjkfejcaacaa.spoilsOrder
open Go Go.Proofs.Ytgmhjkfejcaacaa.Ev
theorem g_0_0 : (up 2 (fun c => up 10 (fun d => R 0 0 c d))) = true := by kernel_rfl
theorem g_0_1 : (up 2 (fun c => up 10 (fun d => R 0 1 c d))) = true := by kernel_rfl
theorem g_0_2 : (up 2 (fun c => up 10 (fun d => R 0 2 c d))) = true := by kernel_rfl
theorem g_0_3 : (up 2 (fun c => up 10 (fun d => R 0 3 c d))) = true := by kernel_rfl
end Go.Proofs.Ytgmhjkfejcaacaa.spoilsOrder
