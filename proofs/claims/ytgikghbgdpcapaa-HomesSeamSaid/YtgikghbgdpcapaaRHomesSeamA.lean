/- The statement 'HomesSeam', case by case: each run answers true. Conditions: none. -/
import Derived.Test.YtgikghbgdpcapaaRDHomesSeam
import Derived.KernelRfl
namespace Go.Proofs.Ytgikghbgdpcapaa.homesSeam
open Go Go.Proofs.Ytgikghbgdpcapaa.Ev
theorem g_0_0 : (up 3 (fun b => R 0 0 b)) = true := by kernel_rfl
theorem g_0_1 : (up 3 (fun b => R 0 1 b)) = true := by kernel_rfl
theorem g_0_2 : (up 3 (fun b => R 0 2 b)) = true := by kernel_rfl
theorem g_1_0 : (up 3 (fun b => R 1 0 b)) = true := by kernel_rfl
end Go.Proofs.Ytgikghbgdpcapaa.homesSeam
