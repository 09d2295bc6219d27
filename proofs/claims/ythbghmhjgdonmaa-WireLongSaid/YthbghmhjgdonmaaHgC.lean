/- Lines of values are checked, by runs of the kernel. -/
import Derived.Test.YthbghmhjgdonmaaCdWL
namespace Go.Proofs.Ythbghmhjgdonmaa.Ev
open Go Go.RowKit Go.Proofs.Ythbghmhjgdonmaa.Ms
set_option linter.all false
set_option maxRecDepth 100000
theorem j90:jgc 24=true:=by kernel_rfl
theorem j91:jgc 25=true:=by kernel_rfl
theorem j92:jgc 26=true:=by kernel_rfl
theorem j93:jgc 27=true:=by kernel_rfl
theorem j94:jgc 28=true:=by kernel_rfl
theorem j95:jgc 29=true:=by kernel_rfl
end Go.Proofs.Ythbghmhjgdonmaa.Ev
