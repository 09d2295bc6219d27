/- The statement 'OrderFan', case by case: each run answers true. Conditions: none. -/
import Derived.Test.YtjdabjjklepbkaaRDOrderFan
import Derived.KernelRfl
namespace Go.Proofs.Ytjdabjjklepbkaa.orderFan
open Go Go.Proofs.Ytjdabjjklepbkaa.Ev
theorem g_7_7 : (up 6 (fun k => R 7 7 k)) = true := by kernel_rfl
theorem g_7_8 : (up 6 (fun k => R 7 8 k)) = true := by kernel_rfl
theorem g_8_0 : (up 6 (fun k => R 8 0 k)) = true := by kernel_rfl
theorem g_8_1 : (up 6 (fun k => R 8 1 k)) = true := by kernel_rfl
theorem g_8_2 : (up 6 (fun k => R 8 2 k)) = true := by kernel_rfl
theorem g_8_3 : (up 6 (fun k => R 8 3 k)) = true := by kernel_rfl
theorem g_8_4 : (up 6 (fun k => R 8 4 k)) = true := by kernel_rfl
end Go.Proofs.Ytjdabjjklepbkaa.orderFan
