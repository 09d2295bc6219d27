/- The statement 'MovesTurn', case by case: each run answers true. Conditions: none. -/
import Derived.Test.YtagnejaajbmfbaaRDMovesTurn
import Derived.KernelRfl
namespace Go.Proofs.Ytagnejaajbmfbaa.movesTurn
open Go Go.Proofs.Ytagnejaajbmfbaa.Ev
theorem n_1_2 : R 1 2 .nilSlice = true := by kernel_rfl
theorem o_1_2 (r : List (List SV)) : R 1 2 (.lst (lapp (symr 65 3) r)) = true := by kernel_rfl
theorem g_1_2_0 : fromN 13 0 (fun n => R 1 2 (.lst (symr n 3))) = true := by kernel_rfl
theorem g_1_2_13 : fromN 13 13 (fun n => R 1 2 (.lst (symr n 3))) = true := by kernel_rfl
theorem g_1_2_26 : fromN 13 26 (fun n => R 1 2 (.lst (symr n 3))) = true := by kernel_rfl
theorem g_1_2_39 : fromN 13 39 (fun n => R 1 2 (.lst (symr n 3))) = true := by kernel_rfl
theorem g_1_2_52 : fromN 13 52 (fun n => R 1 2 (.lst (symr n 3))) = true := by kernel_rfl
end Go.Proofs.Ytagnejaajbmfbaa.movesTurn
