/- The statement 'OrderFan', case by case: each run answers true. Conditions: none. -/
import Derived.Test.YtjdabjjklepbkaaRDOrderFan
import Derived.KernelRfl
namespace Go.Proofs.Ytjdabjjklepbkaa.orderFan
open Go Go.Proofs.Ytjdabjjklepbkaa.Ev
theorem g_7_0 : (up 6 (fun k => R 7 0 k)) = true := by kernel_rfl
theorem g_7_1 : (up 6 (fun k => R 7 1 k)) = true := by kernel_rfl
theorem g_7_2 : (up 6 (fun k => R 7 2 k)) = true := by kernel_rfl
theorem g_7_3 : (up 6 (fun k => R 7 3 k)) = true := by kernel_rfl
theorem g_7_4 : (up 6 (fun k => R 7 4 k)) = true := by kernel_rfl
theorem g_7_5 : (up 6 (fun k => R 7 5 k)) = true := by kernel_rfl
theorem g_7_6 : (up 6 (fun k => R 7 6 k)) = true := by kernel_rfl
end Go.Proofs.Ytjdabjjklepbkaa.orderFan
