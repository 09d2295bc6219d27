/- The statement 'ShapeFull', case by case: each run answers true. Conditions: none. -/
import Derived.Test.YtgmhjkfejcaacaaRDShapeFull
import Derived.KernelRfl
namespace Go.Proofs.Ytgmhjkfejcaacaa.shapeFull
open Go Go.Proofs.Ytgmhjkfejcaacaa.Ev
theorem g_3_3 : (up (3 + 3) (fun s => R 3 3 s)) = true := by kernel_rfl
theorem g_3_4 : (up (3 + 3) (fun s => R 3 4 s)) = true := by kernel_rfl
theorem g_3_5 : (up (3 + 3) (fun s => R 3 5 s)) = true := by kernel_rfl
theorem g_3_6 : (up (3 + 3) (fun s => R 3 6 s)) = true := by kernel_rfl
theorem g_4_0 : (up (3 + 4) (fun s => R 4 0 s)) = true := by kernel_rfl
theorem g_4_1 : (up (3 + 4) (fun s => R 4 1 s)) = true := by kernel_rfl
theorem g_4_2 : (up (3 + 4) (fun s => R 4 2 s)) = true := by kernel_rfl
theorem g_4_3 : (up (3 + 4) (fun s => R 4 3 s)) = true := by kernel_rfl
theorem g_4_4 : (up (3 + 4) (fun s => R 4 4 s)) = true := by kernel_rfl
theorem g_4_5 : (up (3 + 4) (fun s => R 4 5 s)) = true := by kernel_rfl
theorem g_4_6 : (up (3 + 4) (fun s => R 4 6 s)) = true := by kernel_rfl
theorem g_5_0 : (up (3 + 5) (fun s => R 5 0 s)) = true := by kernel_rfl
end Go.Proofs.Ytgmhjkfejcaacaa.shapeFull
