/- The statement 'OrderRound', case by case: each run answers true. Conditions: none. -/
import Derived.Test.YtjdabjjklepbkaaRDOrderRound
import Derived.KernelRfl
namespace Go.Proofs.Ytjdabjjklepbkaa.orderRound
open Go Go.Proofs.Ytjdabjjklepbkaa.Ev
theorem g_6_0 : (up (1 + 6) (fun n => R 6 0 n)) = true := by kernel_rfl
theorem g_6_1 : (up (1 + 6) (fun n => R 6 1 n)) = true := by kernel_rfl
theorem g_7_0 : (up (1 + 7) (fun n => R 7 0 n)) = true := by kernel_rfl
theorem g_7_1 : (up (1 + 7) (fun n => R 7 1 n)) = true := by kernel_rfl
theorem g_8_0 : (up (1 + 8) (fun n => R 8 0 n)) = true := by kernel_rfl
theorem g_8_1 : (up (1 + 8) (fun n => R 8 1 n)) = true := by kernel_rfl
end Go.Proofs.Ytjdabjjklepbkaa.orderRound
