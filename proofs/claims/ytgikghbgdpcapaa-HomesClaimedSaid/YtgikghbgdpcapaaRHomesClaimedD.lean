/- The statement 'HomesClaimed', case by case: each run answers true. Conditions: none. -/
import Derived.Test.YtgikghbgdpcapaaRDHomesClaimed
import Derived.KernelRfl
namespace Go.Proofs.Ytgikghbgdpcapaa.homesClaimed
open Go Go.Proofs.Ytgikghbgdpcapaa.Ev
theorem g_4_1 : (up 3 (fun a => R 4 1 a)) = true := by kernel_rfl
theorem g_4_2 : (up 3 (fun a => R 4 2 a)) = true := by kernel_rfl
theorem g_4_3 : (up 3 (fun a => R 4 3 a)) = true := by kernel_rfl
theorem g_4_4 : (up 3 (fun a => R 4 4 a)) = true := by kernel_rfl
end Go.Proofs.Ytgikghbgdpcapaa.homesClaimed
