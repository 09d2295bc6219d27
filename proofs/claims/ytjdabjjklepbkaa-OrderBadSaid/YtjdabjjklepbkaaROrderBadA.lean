/- The statement 'OrderBad', case by case: each run answers true. Conditions: none. -/
import Derived.Test.YtjdabjjklepbkaaRDOrderBad
import Derived.KernelRfl
namespace Go.Proofs.Ytjdabjjklepbkaa.orderBad
open Go Go.Proofs.Ytjdabjjklepbkaa.Ev
theorem g_0 : (up (2 + 0) (fun n => up 4 (fun w => R 0 n w))) = true := by kernel_rfl
theorem g_1 : (up (2 + 1) (fun n => up 4 (fun w => R 1 n w))) = true := by kernel_rfl
theorem g_2 : (up (2 + 2) (fun n => up 4 (fun w => R 2 n w))) = true := by kernel_rfl
theorem g_3 : (up (2 + 3) (fun n => up 4 (fun w => R 3 n w))) = true := by kernel_rfl
theorem g_4 : (up (2 + 4) (fun n => up 4 (fun w => R 4 n w))) = true := by kernel_rfl
theorem g_5 : (up (2 + 5) (fun n => up 4 (fun w => R 5 n w))) = true := by kernel_rfl
theorem g_6 : (up (2 + 6) (fun n => up 4 (fun w => R 6 n w))) = true := by kernel_rfl
theorem g_7 : (up (2 + 7) (fun n => up 4 (fun w => R 7 n w))) = true := by kernel_rfl
theorem g_8 : (up (2 + 8) (fun n => up 4 (fun w => R 8 n w))) = true := by kernel_rfl
end Go.Proofs.Ytjdabjjklepbkaa.orderBad
