/- The statement 'OrderRound', case by case: each run answers true. Conditions: none. -/
import Derived.Test.YtjdabjjklepbkaaRDOrderRound
import Derived.KernelRfl
namespace Go.Proofs.Ytjdabjjklepbkaa.orderRound
open Go Go.Proofs.Ytjdabjjklepbkaa.Ev
theorem g_3_0 : (up (1 + 3) (fun n => R 3 0 n)) = true := by kernel_rfl
theorem g_3_1 : (up (1 + 3) (fun n => R 3 1 n)) = true := by kernel_rfl
theorem g_4_0 : (up (1 + 4) (fun n => R 4 0 n)) = true := by kernel_rfl
theorem g_4_1 : (up (1 + 4) (fun n => R 4 1 n)) = true := by kernel_rfl
theorem g_5_0 : (up (1 + 5) (fun n => R 5 0 n)) = true := by kernel_rfl
theorem g_5_1 : (up (1 + 5) (fun n => R 5 1 n)) = true := by kernel_rfl
end Go.Proofs.Ytjdabjjklepbkaa.orderRound
