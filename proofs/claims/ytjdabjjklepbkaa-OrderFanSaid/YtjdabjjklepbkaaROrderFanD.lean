/- The statement 'OrderFan', case by case: each run answers true. Conditions: none. -/
import Derived.Test.YtjdabjjklepbkaaRDOrderFan
import Derived.KernelRfl
namespace Go.Proofs.Ytjdabjjklepbkaa.orderFan
open Go Go.Proofs.Ytjdabjjklepbkaa.Ev
theorem g_5_1 : (up 6 (fun k => R 5 1 k)) = true := by kernel_rfl
theorem g_5_2 : (up 6 (fun k => R 5 2 k)) = true := by kernel_rfl
theorem g_5_3 : (up 6 (fun k => R 5 3 k)) = true := by kernel_rfl
theorem g_5_4 : (up 6 (fun k => R 5 4 k)) = true := by kernel_rfl
theorem g_5_5 : (up 6 (fun k => R 5 5 k)) = true := by kernel_rfl
theorem g_5_6 : (up 6 (fun k => R 5 6 k)) = true := by kernel_rfl
theorem g_6_0 : (up 6 (fun k => R 6 0 k)) = true := by kernel_rfl
end Go.Proofs.Ytjdabjjklepbkaa.orderFan
