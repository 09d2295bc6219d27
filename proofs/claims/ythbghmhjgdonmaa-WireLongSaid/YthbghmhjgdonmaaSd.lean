/- What functions may be: small checks: fixed registers, a register among others, registers that are needed. -/
import Derived.Test.YthbghmhjgdonmaaSb
namespace Go.Proofs.Ythbghmhjgdonmaa.Ev
open Go Go.RowKit Go.Proofs.Ythbghmhjgdonmaa.Ms
set_option linter.all false
set_option maxRecDepth 100000
set_option maxHeartbeats 2000000
variable {l:List SV}
theorem jqj:jhi []=true:=rfl
theorem jm3 {a:AV} {l:List AV}:jhi (a::l)=oif (j4j a) (jhi l) false:=rfl
theorem jt4:j4j (.agg l)=jqm l:=rfl
theorem j16 {v:SV}:j4j (.s v)=grd v:=rfl
theorem jt5:jqm []=true:=rfl
theorem jqk {a:SV}:jqm (a::l)=oif (grd a) (jqm l) false:=rfl
theorem jze {k:IntKind} {n:Int}:grd (.int k n)=true:=rfl
theorem jt6 {b:Bool}:grd (.bool b)=true:=rfl
section
variable {h:Hp} {f:Fc} {m:Nat×Nat} {Q:AV->Hp->Prop}
end
end Go.Proofs.Ythbghmhjgdonmaa.Ev
