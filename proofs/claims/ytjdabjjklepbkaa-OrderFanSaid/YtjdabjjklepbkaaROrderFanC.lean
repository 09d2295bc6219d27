/- The statement 'OrderFan', case by case: each run answers true. Conditions: none. -/
import Derived.Test.YtjdabjjklepbkaaRDOrderFan
import Derived.KernelRfl
namespace Go.Proofs.Ytjdabjjklepbkaa.orderFan
open Go Go.Proofs.Ytjdabjjklepbkaa.Ev
theorem g_4_0 : (up 6 (fun k => R 4 0 k)) = true := by kernel_rfl
theorem g_4_1 : (up 6 (fun k => R 4 1 k)) = true := by kernel_rfl
theorem g_4_2 : (up 6 (fun k => R 4 2 k)) = true := by kernel_rfl
theorem g_4_3 : (up 6 (fun k => R 4 3 k)) = true := by kernel_rfl
theorem g_4_4 : (up 6 (fun k => R 4 4 k)) = true := by kernel_rfl
theorem g_4_5 : (up 6 (fun k => R 4 5 k)) = true := by kernel_rfl
theorem g_5_0 : (up 6 (fun k => R 5 0 k)) = true := by kernel_rfl
end Go.Proofs.Ytjdabjjklepbkaa.orderFan
