/- The statement 'SpoilsOrder', case by case: each run answers true. Conditions: none. -/
import Derived.Test.YtgmhjkfejcaacaaRDSpoilsOrder
import Derived.KernelRfl
namespace Go.Proofs.Ytgmhjkfejcaacaa.spoilsOrder
open Go Go.Proofs.Ytgmhjkfejcaacaa.Ev
theorem g_1_2 : (up 2 (fun c => up 10 (fun d => R 1 2 c d))) = true := by kernel_rfl
theorem g_1_3 : (up 2 (fun c => up 10 (fun d => R 1 3 c d))) = true := by kernel_rfl
theorem g_1_4 : (up 2 (fun c => up 10 (fun d => R 1 4 c d))) = true := by kernel_rfl
theorem g_1_5 : (up 2 (fun c => up 10 (fun d => R 1 5 c d))) = true := by kernel_rfl
end Go.Proofs.Ytgmhjkfejcaacaa.spoilsOrder
