/- The statement 'GroupsRing', case by case: each run answers true. Conditions: none. -/
import Derived.Test.YtgikghbgdpcapaaRDGroupsRing
import Derived.KernelRfl
namespace Go.Proofs.Ytgikghbgdpcapaa.groupsRing
open Go Go.Proofs.Ytgikghbgdpcapaa.Ev
theorem g_0 : (R 0) = true := by kernel_rfl
theorem g_1 : (R 1) = true := by kernel_rfl
theorem g_2 : (R 2) = true := by kernel_rfl
theorem g_3 : (R 3) = true := by kernel_rfl
theorem g_4 : (R 4) = true := by kernel_rfl
theorem g_5 : (R 5) = true := by kernel_rfl
theorem g_6 : (R 6) = true := by kernel_rfl
theorem g_7 : (R 7) = true := by kernel_rfl
theorem g_8 : (R 8) = true := by kernel_rfl
theorem g_9 : (R 9) = true := by kernel_rfl
end Go.Proofs.Ytgikghbgdpcapaa.groupsRing
