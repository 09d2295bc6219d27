/- The statement 'OrderSlots', case by case: each run answers true. Conditions: none. -/
import Derived.Test.YtjdabjjklepbkaaRDOrderSlots
import Derived.KernelRfl
namespace Go.Proofs.Ytjdabjjklepbkaa.orderSlots
open Go Go.Proofs.Ytjdabjjklepbkaa.Ev
theorem g_0 : (up 2 (fun c => R 0 c)) = true := by kernel_rfl
theorem g_1 : (up 2 (fun c => R 1 c)) = true := by kernel_rfl
theorem g_2 : (up 2 (fun c => R 2 c)) = true := by kernel_rfl
theorem g_3 : (up 2 (fun c => R 3 c)) = true := by kernel_rfl
end Go.Proofs.Ytjdabjjklepbkaa.orderSlots
