/- The statement 'KindTold', case by case: each run answers true. Conditions: none. -/
import Derived.Test.YtgmhjkfejcaacaaRDKindTold
import Derived.KernelRfl
namespace Go.Proofs.Ytgmhjkfejcaacaa.kindTold
open Go Go.Proofs.Ytgmhjkfejcaacaa.Ev
theorem g_0 : (up 9 (fun l => R 0 l)) = true := by kernel_rfl
theorem g_1 : (up 9 (fun l => R 1 l)) = true := by kernel_rfl
theorem g_2 : (up 9 (fun l => R 2 l)) = true := by kernel_rfl
theorem g_3 : (up 9 (fun l => R 3 l)) = true := by kernel_rfl
theorem g_4 : (up 9 (fun l => R 4 l)) = true := by kernel_rfl
theorem g_5 : (up 9 (fun l => R 5 l)) = true := by kernel_rfl
end Go.Proofs.Ytgmhjkfejcaacaa.kindTold
