/- The statement 'HomesSeam', case by case: each run answers true. Conditions: none. -/
import Derived.Test.YtgikghbgdpcapaaRDHomesSeam
import Derived.KernelRfl
namespace Go.Proofs.Ytgikghbgdpcapaa.homesSeam
open Go Go.Proofs.Ytgikghbgdpcapaa.Ev
theorem g_2_2 : (up 3 (fun b => R 2 2 b)) = true := by kernel_rfl
theorem g_3_0 : (up 3 (fun b => R 3 0 b)) = true := by kernel_rfl
theorem g_3_1 : (up 3 (fun b => R 3 1 b)) = true := by kernel_rfl
theorem g_3_2 : (up 3 (fun b => R 3 2 b)) = true := by kernel_rfl
end Go.Proofs.Ytgikghbgdpcapaa.homesSeam
