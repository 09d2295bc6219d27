/- The statement 'ClashTold', case by case: each run answers true. Conditions: none. -/
import Derived.Test.YtgmhjkfejcaacaaRDClashTold
import Derived.KernelRfl
namespace Go.Proofs.Ytgmhjkfejcaacaa.clashTold
open Go Go.Proofs.Ytgmhjkfejcaacaa.Ev
theorem g_0 : (both (fun l => up 3 (fun w => R 0 l w))) = true := by kernel_rfl
theorem g_1 : (both (fun l => up 3 (fun w => R 1 l w))) = true := by kernel_rfl
theorem g_2 : (both (fun l => up 3 (fun w => R 2 l w))) = true := by kernel_rfl
theorem g_3 : (both (fun l => up 3 (fun w => R 3 l w))) = true := by kernel_rfl
theorem g_4 : (both (fun l => up 3 (fun w => R 4 l w))) = true := by kernel_rfl
theorem g_5 : (both (fun l => up 3 (fun w => R 5 l w))) = true := by kernel_rfl
theorem g_6 : (both (fun l => up 3 (fun w => R 6 l w))) = true := by kernel_rfl
theorem g_7 : (both (fun l => up 3 (fun w => R 7 l w))) = true := by kernel_rfl
theorem g_8 : (both (fun l => up 3 (fun w => R 8 l w))) = true := by kernel_rfl
theorem g_9 : (both (fun l => up 3 (fun w => R 9 l w))) = true := by kernel_rfl
end Go.Proofs.Ytgmhjkfejcaacaa.clashTold
