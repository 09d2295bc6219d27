/- The statement 'MovesTurn': calls run apart from the heap. Conditions: none. -/
import Derived.Test.YtagnejaajbmfbaaRQMovesTurn0
import Derived.KernelRfl
namespace Go.Proofs.Ytagnejaajbmfbaa.movesTurn
open Go Go.Proofs.Ytagnejaajbmfbaa.Ev
set_option maxRecDepth 100000
noncomputable def r0_0_0 : Row := .mk 22 [(.agg [(.lst [[(.int .i64 (.ofNat 0))]]), (.lst [[.nilSlice, (.lst [[(.int .i64 (.ofNat 1)), (.lst [[(.int .i64 (.ofNat 2)), (.int .i64 (.ofNat 0)), (.bool true), (.int .i64 (.ofNat 1)), (.int .i64 (.ofNat 0))]]), .nilSlice], [(.int .i64 (.ofNat 2)), .nilSlice, .nilSlice], [(.int .i64 (.ofNat 3)), (.lst [[(.int .i64 (.ofNat 1)), (.int .i64 (.ofNat 0)), (.bool false), (.int .i64 (.ofNat 1)), (.int .i64 (.ofNat 0))]]), .nilSlice]]), .nilSlice]])]), (.agg [(.int .i64 (.ofNat 10)), (.int .i64 (.ofNat 10))])] (.s (.int .i64 (.ofNat 0)))
theorem t0_0_0 : rowB G0 5000 r0_0_0 = true := by kernel_rfl
noncomputable def rows0_0 : List Row := [r0_0_0]
theorem ok0_0 : ∀ e ∈ rows0_0, RowOk Try.prog tys e := rowsHold e0 (show allR G0 5000 rows0_0 from ⟨t0_0_0, trivial⟩)
end Go.Proofs.Ytagnejaajbmfbaa.movesTurn
