/- The statement 'OrderNone', case by case: each run answers true. Conditions: none. -/
import Derived.Test.YtjdabjjklepbkaaRDOrderNone
import Derived.KernelRfl
namespace Go.Proofs.Ytjdabjjklepbkaa.orderNone
open Go Go.Proofs.Ytjdabjjklepbkaa.Ev
theorem g_5 : (up (3 + 5) (fun n => R 5 n)) = true := by kernel_rfl
theorem g_6 : (up (3 + 6) (fun n => R 6 n)) = true := by kernel_rfl
theorem g_7 : (up (3 + 7) (fun n => R 7 n)) = true := by kernel_rfl
theorem g_8 : (up (3 + 8) (fun n => R 8 n)) = true := by kernel_rfl
end Go.Proofs.Ytjdabjjklepbkaa.orderNone
