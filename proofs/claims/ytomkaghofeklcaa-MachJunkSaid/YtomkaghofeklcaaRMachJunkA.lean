/- The statement 'MachJunk', case by case: each run answers true. Conditions: none. -/
import Derived.Test.YtomkaghofeklcaaRDMachJunk
import Derived.KernelRfl
namespace Go.Proofs.Ytomkaghofeklcaa.machJunk
open Go Go.Proofs.Ytomkaghofeklcaa.Ev
theorem g_0 : (R 0) = true := by kernel_rfl
theorem g_1 : (R 1) = true := by kernel_rfl
theorem g_2 : (R 2) = true := by kernel_rfl
theorem g_3 : (R 3) = true := by kernel_rfl
theorem g_4 : (R 4) = true := by kernel_rfl
end Go.Proofs.Ytomkaghofeklcaa.machJunk
