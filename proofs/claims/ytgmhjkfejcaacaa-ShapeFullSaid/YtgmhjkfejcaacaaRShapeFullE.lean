/- The statement 'ShapeFull', case by case: each run answers true. Conditions: none. -/
import Derived.Test.YtgmhjkfejcaacaaRDShapeFull
import Derived.KernelRfl
namespace Go.Proofs.Ytgmhjkfejcaacaa.shapeFull
open Go Go.Proofs.Ytgmhjkfejcaacaa.Ev
theorem g_6_6 : (up (3 + 6) (fun s => R 6 6 s)) = true := by kernel_rfl
theorem g_7_0 : (up (3 + 7) (fun s => R 7 0 s)) = true := by kernel_rfl
theorem g_7_1 : (up (3 + 7) (fun s => R 7 1 s)) = true := by kernel_rfl
theorem g_7_2 : (up (3 + 7) (fun s => R 7 2 s)) = true := by kernel_rfl
theorem g_7_3 : (up (3 + 7) (fun s => R 7 3 s)) = true := by kernel_rfl
theorem g_7_4 : (up (3 + 7) (fun s => R 7 4 s)) = true := by kernel_rfl
theorem g_7_5 : (up (3 + 7) (fun s => R 7 5 s)) = true := by kernel_rfl
theorem g_7_6 : (up (3 + 7) (fun s => R 7 6 s)) = true := by kernel_rfl
theorem g_8_0 : (up (3 + 8) (fun s => R 8 0 s)) = true := by kernel_rfl
theorem g_8_1 : (up (3 + 8) (fun s => R 8 1 s)) = true := by kernel_rfl
theorem g_8_2 : (up (3 + 8) (fun s => R 8 2 s)) = true := by kernel_rfl
theorem g_8_3 : (up (3 + 8) (fun s => R 8 3 s)) = true := by kernel_rfl
end Go.Proofs.Ytgmhjkfejcaacaa.shapeFull
