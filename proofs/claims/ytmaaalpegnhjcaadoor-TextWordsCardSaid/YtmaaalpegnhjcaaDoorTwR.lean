/- TextWords: each of its five cases, run by the kernel. -/
import Derived.Test.YtmaaalpegnhjcaaDoorEnvL
import Derived.KernelRfl
namespace Go.Proofs.YtmaaalpegnhjcaaDoor.Ev
open Go Go.RowKit
set_option linter.unusedVariables false
set_option maxRecDepth 100000
noncomputable def twR (r : Nat) : Bool := isTrue (runFn (FR [((0, 5), .lit (Int.ofNat r))]) 5000 3 [.s (.sym (.arg 0))] h0)
theorem twA : up 5 twR = true := by kernel_rfl
end Go.Proofs.YtmaaalpegnhjcaaDoor.Ev
