/- The statement 'OrderFan', case by case: each run answers true. Conditions: none. -/
import Derived.Test.YtjdabjjklepbkaaRDOrderFan
import Derived.KernelRfl
namespace Go.Proofs.Ytjdabjjklepbkaa.orderFan
open Go Go.Proofs.Ytjdabjjklepbkaa.Ev
theorem g_0_0 : (up 6 (fun k => R 0 0 k)) = true := by kernel_rfl
theorem g_0_1 : (up 6 (fun k => R 0 1 k)) = true := by kernel_rfl
theorem g_1_0 : (up 6 (fun k => R 1 0 k)) = true := by kernel_rfl
theorem g_1_1 : (up 6 (fun k => R 1 1 k)) = true := by kernel_rfl
theorem g_1_2 : (up 6 (fun k => R 1 2 k)) = true := by kernel_rfl
theorem g_2_0 : (up 6 (fun k => R 2 0 k)) = true := by kernel_rfl
theorem g_2_1 : (up 6 (fun k => R 2 1 k)) = true := by kernel_rfl
end Go.Proofs.Ytjdabjjklepbkaa.orderFan
