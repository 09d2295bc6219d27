/- The interpreter set to this program, some functions (a range over a function; loads in no order) among what it answers. -/
import Derived.Test.YtaljcpoopmedmaaBack3
import Derived.Test.YtaljcpoopmedmaaEnv
namespace Go.Proofs.Ytaljcpoopmedmaa.Ev
open Go Go.RowKit
set_option linter.all false
set_option maxRecDepth 100000
def jl8 (na:Nat) (acc:List Nat):Code->List Nat
 | .seq a b=>jl8 na (jl8 na acc a) b
 | .block _ b=>jl8 na acc b
 | .loop b=>jl8 na acc b
 | .rangeFunc g _ _ b=>jjv na (rdO na [] acc [g]) b
 | c=>jjv na acc c
inductive IFB where
 | mk (ib:IB) (nargs nslots:Nat) (res:List IR)
noncomputable def qfl (T:Tr TI) (fl:Bool) (f:Func):Option IFB :=
 match f.body with
 | none=>none
 | some b =>
  match f.params.size+f.nfree with
  | nargs=>match j32 nargs (jl8 nargs [] b) f.results.toList with
   | acc=>match cB T fl (j2c 0 nargs++acc) f.ntmps b,j9f T (j2c 0 nargs++acc) f.results.toList with
    | some c,some r=>bif Nat.ble nargs f.ntmps then some (.mk c nargs (jc2 acc) r) else none
    | _,_=>none
noncomputable def TB (c:FuncId) (fl:Bool):Option IFB:=ob (Try.prog.funcs[c]?) (qfl tys fl)
end Go.Proofs.Ytaljcpoopmedmaa.Ev
