/- Code of functions as the interpreter has it prepared, cut at loops. -/
import Derived.Test.YtbogkjjoigfbjaaEnv
namespace Go.Proofs.Ytbogkjjoigfbjaa.Ev
open Go Go.RowKit
set_option linter.all false
set_option maxRecDepth 100000
def jre:IC:=qr [qQ 2 (.mv (qC 0))] (.seq (qr [qM 0,qQ 3 (.bin .lt qa (qC 0))] (.cond (.g 3) (.region [qM 0,qP (.bin .add qa (qC 1)),qP (.neg qa),qT 0]) .skip)) (qr [qM 0,qM 1,qP (.bin .rem qb qa),qT 2] .ret))
theorem j15:T 12=some (.mk jre 2 2 [(.tmp 2)]):=by kernel_rfl
end Go.Proofs.Ytbogkjjoigfbjaa.Ev
