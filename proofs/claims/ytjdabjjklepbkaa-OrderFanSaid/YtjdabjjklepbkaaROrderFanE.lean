/- The statement 'OrderFan', case by case: each run answers true. Conditions: none. -/
import Derived.Test.YtjdabjjklepbkaaRDOrderFan
import Derived.KernelRfl
namespace Go.Proofs.Ytjdabjjklepbkaa.orderFan
open Go Go.Proofs.Ytjdabjjklepbkaa.Ev
theorem g_6_1 : (up 6 (fun k => R 6 1 k)) = true := by kernel_rfl
theorem g_6_2 : (up 6 (fun k => R 6 2 k)) = true := by kernel_rfl
theorem g_6_3 : (up 6 (fun k => R 6 3 k)) = true := by kernel_rfl
theorem g_6_4 : (up 6 (fun k => R 6 4 k)) = true := by kernel_rfl
theorem g_6_5 : (up 6 (fun k => R 6 5 k)) = true := by kernel_rfl
theorem g_6_6 : (up 6 (fun k => R 6 6 k)) = true := by kernel_rfl
theorem g_6_7 : (up 6 (fun k => R 6 7 k)) = true := by kernel_rfl
end Go.Proofs.Ytjdabjjklepbkaa.orderFan
