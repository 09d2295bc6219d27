/- What functions may be: small checks: fixed registers, a register among others, registers that are needed. -/
import Derived.Test.YtbogkjjoigfbjaaSb
namespace Go.Proofs.Ytbogkjjoigfbjaa.Ev
open Go Go.RowKit Go.Proofs.Ytbogkjjoigfbjaa.Ms
set_option linter.all false
set_option maxRecDepth 100000
set_option maxHeartbeats 2000000
variable {l:List SV}
theorem jhq:jhh []=true:=rfl
theorem jf2 {a:AV} {l:List AV}:jhh (a::l)=oif (jx6 a) (jhh l) false:=rfl
theorem jj0:jx6 (.agg l)=jr1 l:=rfl
theorem jvd {v:SV}:jx6 (.s v)=grd v:=rfl
theorem jj1:jr1 []=true:=rfl
theorem jhr {a:SV}:jr1 (a::l)=oif (grd a) (jr1 l) false:=rfl
theorem jqe {k:IntKind} {n:Int}:grd (.int k n)=true:=rfl
theorem jj2 {b:Bool}:grd (.bool b)=true:=rfl
def S4 (f:FuncId):Bool:=Nat.beq f 40||(Nat.beq f 41||(Nat.beq f 63||(Nat.beq f 59||(Nat.beq f 60||(Nat.beq f 72||(Nat.beq f 70||(Nat.beq f 62||Nat.beq f 71)))))))
noncomputable def F4:Fns:=PX S4 F3
section
variable {h:Hp} {f:Fc} {m:Nat×Nat} {Q:AV->Hp->Prop}
end
section
variable {h:Hp} {f:Fc} {m:Nat×Nat} {Q:AV->Hp->Prop}
end
end Go.Proofs.Ytbogkjjoigfbjaa.Ev
