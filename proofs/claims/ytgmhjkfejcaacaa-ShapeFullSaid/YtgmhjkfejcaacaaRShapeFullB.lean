/- The statement 'ShapeFull', case by case: each run answers true. Conditions: none. -/
import Derived.Test.YtgmhjkfejcaacaaRDShapeFull
import Derived.KernelRfl
namespace Go.Proofs.Ytgmhjkfejcaacaa.shapeFull
open Go Go.Proofs.Ytgmhjkfejcaacaa.Ev
theorem g_1_5 : (up (3 + 1) (fun s => R 1 5 s)) = true := by kernel_rfl
theorem g_1_6 : (up (3 + 1) (fun s => R 1 6 s)) = true := by kernel_rfl
theorem g_2_0 : (up (3 + 2) (fun s => R 2 0 s)) = true := by kernel_rfl
theorem g_2_1 : (up (3 + 2) (fun s => R 2 1 s)) = true := by kernel_rfl
theorem g_2_2 : (up (3 + 2) (fun s => R 2 2 s)) = true := by kernel_rfl
theorem g_2_3 : (up (3 + 2) (fun s => R 2 3 s)) = true := by kernel_rfl
theorem g_2_4 : (up (3 + 2) (fun s => R 2 4 s)) = true := by kernel_rfl
theorem g_2_5 : (up (3 + 2) (fun s => R 2 5 s)) = true := by kernel_rfl
theorem g_2_6 : (up (3 + 2) (fun s => R 2 6 s)) = true := by kernel_rfl
theorem g_3_0 : (up (3 + 3) (fun s => R 3 0 s)) = true := by kernel_rfl
theorem g_3_1 : (up (3 + 3) (fun s => R 3 1 s)) = true := by kernel_rfl
theorem g_3_2 : (up (3 + 3) (fun s => R 3 2 s)) = true := by kernel_rfl
end Go.Proofs.Ytgmhjkfejcaacaa.shapeFull
