/- Lines of values are checked, by runs of the kernel. -/
import Derived.Test.YthbghmhjgdonmaaCdWL
namespace Go.Proofs.Ythbghmhjgdonmaa.Ev
open Go Go.RowKit Go.Proofs.Ythbghmhjgdonmaa.Ms
set_option linter.all false
set_option maxRecDepth 100000
theorem rc0:jgc 0=true:=by kernel_rfl
theorem rc1:jgc 1=true:=by kernel_rfl
theorem rc2:jgc 2=true:=by kernel_rfl
theorem rc3:jgc 3=true:=by kernel_rfl
theorem rc4:jgc 4=true:=by kernel_rfl
theorem rc5:jgc 5=true:=by kernel_rfl
theorem rc6:jgc 6=true:=by kernel_rfl
theorem rc7:jgc 7=true:=by kernel_rfl
theorem rc8:jgc 8=true:=by kernel_rfl
theorem rc9:jgc 9=true:=by kernel_rfl
theorem j9m:jgc 10=true:=by kernel_rfl
theorem j9n:jgc 11=true:=by kernel_rfl
theorem j9o:jgc 12=true:=by kernel_rfl
theorem j9p:jgc 13=true:=by kernel_rfl
theorem j9q:jgc 14=true:=by kernel_rfl
theorem j9r:jgc 15=true:=by kernel_rfl
end Go.Proofs.Ythbghmhjgdonmaa.Ev
