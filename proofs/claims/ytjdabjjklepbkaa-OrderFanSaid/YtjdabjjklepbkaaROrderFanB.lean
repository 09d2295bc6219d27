/- The statement 'OrderFan', case by case: each run answers true. Conditions: none. -/
import Derived.Test.YtjdabjjklepbkaaRDOrderFan
import Derived.KernelRfl
namespace Go.Proofs.Ytjdabjjklepbkaa.orderFan
open Go Go.Proofs.Ytjdabjjklepbkaa.Ev
theorem g_2_2 : (up 6 (fun k => R 2 2 k)) = true := by kernel_rfl
theorem g_2_3 : (up 6 (fun k => R 2 3 k)) = true := by kernel_rfl
theorem g_3_0 : (up 6 (fun k => R 3 0 k)) = true := by kernel_rfl
theorem g_3_1 : (up 6 (fun k => R 3 1 k)) = true := by kernel_rfl
theorem g_3_2 : (up 6 (fun k => R 3 2 k)) = true := by kernel_rfl
theorem g_3_3 : (up 6 (fun k => R 3 3 k)) = true := by kernel_rfl
theorem g_3_4 : (up 6 (fun k => R 3 4 k)) = true := by kernel_rfl
end Go.Proofs.Ytjdabjjklepbkaa.orderFan
