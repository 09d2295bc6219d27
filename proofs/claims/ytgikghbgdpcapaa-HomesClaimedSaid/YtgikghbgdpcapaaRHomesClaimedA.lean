/- The statement 'HomesClaimed', case by case: each run answers true. Conditions: none. -/
import Derived.Test.YtgikghbgdpcapaaRDHomesClaimed
import Derived.KernelRfl
namespace Go.Proofs.Ytgikghbgdpcapaa.homesClaimed
open Go Go.Proofs.Ytgikghbgdpcapaa.Ev
theorem g_0_0 : (up 3 (fun a => R 0 0 a)) = true := by kernel_rfl
theorem g_0_1 : (up 3 (fun a => R 0 1 a)) = true := by kernel_rfl
theorem g_0_2 : (up 3 (fun a => R 0 2 a)) = true := by kernel_rfl
theorem g_0_3 : (up 3 (fun a => R 0 3 a)) = true := by kernel_rfl
theorem g_0_4 : (up 3 (fun a => R 0 4 a)) = true := by kernel_rfl
theorem g_1_0 : (up 3 (fun a => R 1 0 a)) = true := by kernel_rfl
theorem g_1_1 : (up 3 (fun a => R 1 1 a)) = true := by kernel_rfl
end Go.Proofs.Ytgikghbgdpcapaa.homesClaimed
