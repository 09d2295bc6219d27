/- What functions may be: small checks: fixed registers, a register among others, registers that are needed. -/
import Derived.Test.YtkplfnkgodnmaaaSb
namespace Go.Proofs.Ytkplfnkgodnmaaa.Ev
open Go Go.RowKit Go.Proofs.Ytkplfnkgodnmaaa.Ms
set_option linter.all false
set_option maxRecDepth 100000
set_option maxHeartbeats 2000000
variable {l:List SV}
theorem j4n:jfr []=true:=rfl
theorem jx0 {a:AV} {l:List AV}:jfr (a::l)=oif (jwq a) (jfr l) false:=rfl
theorem j8c:jwq (.agg l)=jm0 l:=rfl
theorem qiz {v:SV}:jwq (.s v)=grd v:=rfl
theorem j8d:jm0 []=true:=rfl
theorem j4o {a:SV}:jm0 (a::l)=oif (grd a) (jm0 l) false:=rfl
theorem qem {k:IntKind} {n:Int}:grd (.int k n)=true:=rfl
theorem j8e {b:Bool}:grd (.bool b)=true:=rfl
section
variable {h:Hp} {f:Fc} {m:Nat×Nat} {Q:AV->Hp->Prop}
end
section
variable {h:Hp} {f:Fc} {m:Nat×Nat} {Q:AV->Hp->Prop}
end
end Go.Proofs.Ytkplfnkgodnmaaa.Ev
