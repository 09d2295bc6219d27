/- The interpreter set to this program, some functions (a range over a function; loads in no order) among what it answers. -/
import Derived.Test.YtehhjbfmjdlcjaaBack3
import Derived.Test.YtehhjbfmjdlcjaaEnv
namespace Go.Proofs.Ytehhjbfmjdlcjaa.Ev
open Go Go.RowKit
set_option linter.all false
set_option maxRecDepth 100000
def jl7 (na:Nat) (acc:List Nat):Code->List Nat
 | .seq a b=>jl7 na (jl7 na acc a) b
 | .block _ b=>jl7 na acc b
 | .loop b=>jl7 na acc b
 | .rangeFunc g _ _ b=>jjo na (rdO na [] acc [g]) b
 | c=>jjo na acc c
inductive IFB where
 | mk (ib:IB) (nargs nslots:Nat) (res:List IR)
noncomputable def qgb (T:Tr TI) (fl:Bool) (f:Func):Option IFB :=
 match f.body with
 | none=>none
 | some b =>
  match f.params.size+f.nfree with
  | nargs=>match j4b nargs (jl7 nargs [] b) f.results.toList with
   | acc=>match cB T fl (j2n 0 nargs++acc) f.ntmps b,j92 T (j2n 0 nargs++acc) f.results.toList with
    | some c,some r=>bif Nat.ble nargs f.ntmps then some (.mk c nargs (jc3 acc) r) else none
    | _,_=>none
noncomputable def TB (c:FuncId) (fl:Bool):Option IFB:=ob (Try.prog.funcs[c]?) (qgb tys fl)
end Go.Proofs.Ytehhjbfmjdlcjaa.Ev
