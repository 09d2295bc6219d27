/- Code of functions as the interpreter has it prepared, cut at loops. -/
import Derived.Test.YthbghmhjgdonmaaEnv
namespace Go.Proofs.Ythbghmhjgdonmaa.Ev
open Go Go.RowKit
set_option linter.all false
set_option maxRecDepth 100000
def jp6:IC:=qr [qQ 2 (.mv (qC 0))] (.seq (qr [qM 0,qQ 3 (.bin .lt qa (qC 0))] (.cond (.g 3) (.region [qM 0,qP (.bin .add qa (qC 1)),qP (.neg qa),qT 0]) .skip)) (qr [qM 0,qM 1,qP (.bin .rem qb qa),qT 2] .ret))
theorem j0f:T 16=some (.mk jp6 2 2 [(.tmp 2)]):=by kernel_rfl
end Go.Proofs.Ythbghmhjgdonmaa.Ev
