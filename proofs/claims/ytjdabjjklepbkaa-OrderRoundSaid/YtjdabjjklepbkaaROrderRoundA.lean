/- The statement 'OrderRound', case by case: each run answers true. Conditions: none. -/
import Derived.Test.YtjdabjjklepbkaaRDOrderRound
import Derived.KernelRfl
namespace Go.Proofs.Ytjdabjjklepbkaa.orderRound
open Go Go.Proofs.Ytjdabjjklepbkaa.Ev
theorem g_0_0 : (up (1 + 0) (fun n => R 0 0 n)) = true := by kernel_rfl
theorem g_0_1 : (up (1 + 0) (fun n => R 0 1 n)) = true := by kernel_rfl
theorem g_1_0 : (up (1 + 1) (fun n => R 1 0 n)) = true := by kernel_rfl
theorem g_1_1 : (up (1 + 1) (fun n => R 1 1 n)) = true := by kernel_rfl
theorem g_2_0 : (up (1 + 2) (fun n => R 2 0 n)) = true := by kernel_rfl
theorem g_2_1 : (up (1 + 2) (fun n => R 2 1 n)) = true := by kernel_rfl
end Go.Proofs.Ytjdabjjklepbkaa.orderRound
