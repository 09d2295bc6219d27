/- Code of functions as the interpreter has it prepared, cut at loops. -/
import Derived.Test.YtkplfnkgodnmaaaEnv
namespace Go.Proofs.Ytkplfnkgodnmaaa.Ev
open Go Go.RowKit
set_option linter.all false
set_option maxRecDepth 100000
end Go.Proofs.Ytkplfnkgodnmaaa.Ev
