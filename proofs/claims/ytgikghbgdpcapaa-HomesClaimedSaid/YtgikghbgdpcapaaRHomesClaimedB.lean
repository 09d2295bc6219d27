/- The statement 'HomesClaimed', case by case: each run answers true. Conditions: none. -/
import Derived.Test.YtgikghbgdpcapaaRDHomesClaimed
import Derived.KernelRfl
namespace Go.Proofs.Ytgikghbgdpcapaa.homesClaimed
open Go Go.Proofs.Ytgikghbgdpcapaa.Ev
theorem g_1_2 : (up 3 (fun a => R 1 2 a)) = true := by kernel_rfl
theorem g_1_3 : (up 3 (fun a => R 1 3 a)) = true := by kernel_rfl
theorem g_1_4 : (up 3 (fun a => R 1 4 a)) = true := by kernel_rfl
theorem g_2_0 : (up 3 (fun a => R 2 0 a)) = true := by kernel_rfl
theorem g_2_1 : (up 3 (fun a => R 2 1 a)) = true := by kernel_rfl
theorem g_2_2 : (up 3 (fun a => R 2 2 a)) = true := by kernel_rfl
theorem g_2_3 : (up 3 (fun a => R 2 3 a)) = true := by kernel_rfl
end Go.Proofs.Ytgikghbgdpcapaa.homesClaimed
