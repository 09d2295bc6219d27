/- The statement 'ShapeFull', case by case: each run answers true. Conditions: none. -/
import Derived.Test.YtgmhjkfejcaacaaRDShapeFull
import Derived.KernelRfl
namespace Go.Proofs.Ytgmhjkfejcaacaa.shapeFull
open Go Go.Proofs.Ytgmhjkfejcaacaa.Ev
theorem g_0_0 : (up (3 + 0) (fun s => R 0 0 s)) = true := by kernel_rfl
theorem g_0_1 : (up (3 + 0) (fun s => R 0 1 s)) = true := by kernel_rfl
theorem g_0_2 : (up (3 + 0) (fun s => R 0 2 s)) = true := by kernel_rfl
theorem g_0_3 : (up (3 + 0) (fun s => R 0 3 s)) = true := by kernel_rfl
theorem g_0_4 : (up (3 + 0) (fun s => R 0 4 s)) = true := by kernel_rfl
theorem g_0_5 : (up (3 + 0) (fun s => R 0 5 s)) = true := by kernel_rfl
theorem g_0_6 : (up (3 + 0) (fun s => R 0 6 s)) = true := by kernel_rfl
theorem g_1_0 : (up (3 + 1) (fun s => R 1 0 s)) = true := by kernel_rfl
theorem g_1_1 : (up (3 + 1) (fun s => R 1 1 s)) = true := by kernel_rfl
theorem g_1_2 : (up (3 + 1) (fun s => R 1 2 s)) = true := by kernel_rfl
theorem g_1_3 : (up (3 + 1) (fun s => R 1 3 s)) = true := by kernel_rfl
theorem g_1_4 : (up (3 + 1) (fun s => R 1 4 s)) = true := by kernel_rfl
end Go.Proofs.Ytgmhjkfejcaacaa.shapeFull
