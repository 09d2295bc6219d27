/- The statement 'GroupsRing', case by case: each run answers true. Conditions: none. -/
import Derived.Test.YtgikghbgdpcapaaRDGroupsRing
import Derived.KernelRfl
namespace Go.Proofs.Ytgikghbgdpcapaa.groupsRing
open Go Go.Proofs.Ytgikghbgdpcapaa.Ev
theorem g_10 : (R 10) = true := by kernel_rfl
theorem g_11 : (R 11) = true := by kernel_rfl
theorem g_12 : (R 12) = true := by kernel_rfl
theorem g_13 : (R 13) = true := by kernel_rfl
theorem g_14 : (R 14) = true := by kernel_rfl
theorem g_15 : (R 15) = true := by kernel_rfl
theorem g_16 : (R 16) = true := by kernel_rfl
theorem g_17 : (R 17) = true := by kernel_rfl
theorem g_18 : (R 18) = true := by kernel_rfl
theorem g_19 : (R 19) = true := by kernel_rfl
end Go.Proofs.Ytgikghbgdpcapaa.groupsRing
