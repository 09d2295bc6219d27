/- The statement 'ShapeFull', case by case: each run answers true. Conditions: none. -/
import Derived.Test.YtgmhjkfejcaacaaRDShapeFull
import Derived.KernelRfl
namespace Go.Proofs.Ytgmhjkfejcaacaa.shapeFull
open Go Go.Proofs.Ytgmhjkfejcaacaa.Ev
theorem g_5_1 : (up (3 + 5) (fun s => R 5 1 s)) = true := by kernel_rfl
theorem g_5_2 : (up (3 + 5) (fun s => R 5 2 s)) = true := by kernel_rfl
theorem g_5_3 : (up (3 + 5) (fun s => R 5 3 s)) = true := by kernel_rfl
theorem g_5_4 : (up (3 + 5) (fun s => R 5 4 s)) = true := by kernel_rfl
theorem g_5_5 : (up (3 + 5) (fun s => R 5 5 s)) = true := by kernel_rfl
theorem g_5_6 : (up (3 + 5) (fun s => R 5 6 s)) = true := by kernel_rfl
theorem g_6_0 : (up (3 + 6) (fun s => R 6 0 s)) = true := by kernel_rfl
theorem g_6_1 : (up (3 + 6) (fun s => R 6 1 s)) = true := by kernel_rfl
theorem g_6_2 : (up (3 + 6) (fun s => R 6 2 s)) = true := by kernel_rfl
theorem g_6_3 : (up (3 + 6) (fun s => R 6 3 s)) = true := by kernel_rfl
theorem g_6_4 : (up (3 + 6) (fun s => R 6 4 s)) = true := by kernel_rfl
theorem g_6_5 : (up (3 + 6) (fun s => R 6 5 s)) = true := by kernel_rfl
end Go.Proofs.Ytgmhjkfejcaacaa.shapeFull
