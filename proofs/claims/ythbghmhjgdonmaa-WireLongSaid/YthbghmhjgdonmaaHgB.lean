/- Lines of values are checked, by runs of the kernel. -/
import Derived.Test.YthbghmhjgdonmaaCdWL
namespace Go.Proofs.Ythbghmhjgdonmaa.Ev
open Go Go.RowKit Go.Proofs.Ythbghmhjgdonmaa.Ms
set_option linter.all false
set_option maxRecDepth 100000
theorem j9s:jgc 16=true:=by kernel_rfl
theorem j9t:jgc 17=true:=by kernel_rfl
theorem j9u:jgc 18=true:=by kernel_rfl
theorem j9v:jgc 19=true:=by kernel_rfl
theorem j9w:jgc 20=true:=by kernel_rfl
theorem j9x:jgc 21=true:=by kernel_rfl
theorem j9y:jgc 22=true:=by kernel_rfl
theorem j9z:jgc 23=true:=by kernel_rfl
end Go.Proofs.Ythbghmhjgdonmaa.Ev
