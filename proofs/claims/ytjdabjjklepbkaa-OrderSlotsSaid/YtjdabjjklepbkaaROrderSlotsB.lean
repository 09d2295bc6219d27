/- The statement 'OrderSlots', case by case: each run answers true. Conditions: none. -/
import Derived.Test.YtjdabjjklepbkaaRDOrderSlots
import Derived.KernelRfl
namespace Go.Proofs.Ytjdabjjklepbkaa.orderSlots
open Go Go.Proofs.Ytjdabjjklepbkaa.Ev
theorem g_4 : (up 2 (fun c => R 4 c)) = true := by kernel_rfl
theorem g_5 : (up 2 (fun c => R 5 c)) = true := by kernel_rfl
theorem g_6 : (up 2 (fun c => R 6 c)) = true := by kernel_rfl
theorem g_7 : (up 2 (fun c => R 7 c)) = true := by kernel_rfl
end Go.Proofs.Ytjdabjjklepbkaa.orderSlots
