/- The statement 'SpansRing': tables of calls. Conditions: none. -/
import Derived.Test.YtgikghbgdpcapaaRTSpansRing1A
import Derived.Test.YtgikghbgdpcapaaRTSpansRing1B
import Derived.Test.YtgikghbgdpcapaaRTSpansRing1C
import Derived.Test.YtgikghbgdpcapaaRTSpansRing1D
import Derived.Test.YtgikghbgdpcapaaRQSpansRing1
namespace Go.Proofs.Ytgikghbgdpcapaa.spansRing
open Go Go.Proofs.Ytgikghbgdpcapaa.Ev
noncomputable def rows1 : List Row := lapp rows1_0 (lapp rows1_1 (lapp rows1_2 (lapp rows1_3 ([]))))
theorem ok1 : ∀ e ∈ rows1, RowOk Try.prog tys e := rowsHold_app ok1_0 (rowsHold_app ok1_1 (rowsHold_app ok1_2 (rowsHold_app ok1_3 (fun e h => by cases h))))
noncomputable def G2 : Fns := withT rows1 G1
theorem e2 (A : Nat → Int) : Env Try.prog A tys G2 := withT_env (e1 A) ok1
end Go.Proofs.Ytgikghbgdpcapaa.spansRing
