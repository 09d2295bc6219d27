/- The statement 'ReuseBad', case by case: each run answers true. Conditions: none. -/
import Derived.Test.YtgmhjkfejcaacaaRDReuseBad
import Derived.KernelRfl
namespace Go.Proofs.Ytgmhjkfejcaacaa.reuseBad
open Go Go.Proofs.Ytgmhjkfejcaacaa.Ev
theorem g_0 : (up 9 (fun n => R 0 n)) = true := by kernel_rfl
theorem g_1 : (up 9 (fun n => R 1 n)) = true := by kernel_rfl
theorem g_2 : (up 9 (fun n => R 2 n)) = true := by kernel_rfl
theorem g_3 : (up 9 (fun n => R 3 n)) = true := by kernel_rfl
theorem g_4 : (up 9 (fun n => R 4 n)) = true := by kernel_rfl
end Go.Proofs.Ytgmhjkfejcaacaa.reuseBad
