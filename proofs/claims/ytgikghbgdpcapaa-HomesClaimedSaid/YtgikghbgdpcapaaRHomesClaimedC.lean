/- The statement 'HomesClaimed', case by case: each run answers true. Conditions: none. -/
import Derived.Test.YtgikghbgdpcapaaRDHomesClaimed
import Derived.KernelRfl
namespace Go.Proofs.Ytgikghbgdpcapaa.homesClaimed
open Go Go.Proofs.Ytgikghbgdpcapaa.Ev
theorem g_2_4 : (up 3 (fun a => R 2 4 a)) = true := by kernel_rfl
theorem g_3_0 : (up 3 (fun a => R 3 0 a)) = true := by kernel_rfl
theorem g_3_1 : (up 3 (fun a => R 3 1 a)) = true := by kernel_rfl
theorem g_3_2 : (up 3 (fun a => R 3 2 a)) = true := by kernel_rfl
theorem g_3_3 : (up 3 (fun a => R 3 3 a)) = true := by kernel_rfl
theorem g_3_4 : (up 3 (fun a => R 3 4 a)) = true := by kernel_rfl
theorem g_4_0 : (up 3 (fun a => R 4 0 a)) = true := by kernel_rfl
end Go.Proofs.Ytgikghbgdpcapaa.homesClaimed
