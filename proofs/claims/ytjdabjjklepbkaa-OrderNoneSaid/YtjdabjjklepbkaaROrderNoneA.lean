/- The statement 'OrderNone', case by case: each run answers true. Conditions: none. -/
import Derived.Test.YtjdabjjklepbkaaRDOrderNone
import Derived.KernelRfl
namespace Go.Proofs.Ytjdabjjklepbkaa.orderNone
open Go Go.Proofs.Ytjdabjjklepbkaa.Ev
theorem g_0 : (up (3 + 0) (fun n => R 0 n)) = true := by kernel_rfl
theorem g_1 : (up (3 + 1) (fun n => R 1 n)) = true := by kernel_rfl
theorem g_2 : (up (3 + 2) (fun n => R 2 n)) = true := by kernel_rfl
theorem g_3 : (up (3 + 3) (fun n => R 3 n)) = true := by kernel_rfl
theorem g_4 : (up (3 + 4) (fun n => R 4 n)) = true := by kernel_rfl
end Go.Proofs.Ytjdabjjklepbkaa.orderNone
