/- The statement 'OrderFan', case by case: each run answers true. Conditions: none. -/
import Derived.Test.YtjdabjjklepbkaaRDOrderFan
import Derived.KernelRfl
namespace Go.Proofs.Ytjdabjjklepbkaa.orderFan
open Go Go.Proofs.Ytjdabjjklepbkaa.Ev
theorem g_8_5 : (up 6 (fun k => R 8 5 k)) = true := by kernel_rfl
theorem g_8_6 : (up 6 (fun k => R 8 6 k)) = true := by kernel_rfl
theorem g_8_7 : (up 6 (fun k => R 8 7 k)) = true := by kernel_rfl
theorem g_8_8 : (up 6 (fun k => R 8 8 k)) = true := by kernel_rfl
theorem g_8_9 : (up 6 (fun k => R 8 9 k)) = true := by kernel_rfl
end Go.Proofs.Ytjdabjjklepbkaa.orderFan
