/- The interpreter set to this program, some functions (a range over a function; loads in no order) among what it answers. -/
import Derived.Test.YtokcdoklcbgigaaBack3
import Derived.Test.YtokcdoklcbgigaaEnv
namespace Go.Proofs.Ytokcdoklcbgigaa.Ev
open Go Go.RowKit
set_option linter.all false
set_option maxRecDepth 100000
def jl8 (na:Nat) (acc:List Nat):Code->List Nat
 | .seq a b=>jl8 na (jl8 na acc a) b
 | .block _ b=>jl8 na acc b
 | .loop b=>jl8 na acc b
 | .rangeFunc g _ _ b=>jju na (rdO na [] acc [g]) b
 | c=>jju na acc c
inductive IFB where
 | mk (ib:IB) (nargs nslots:Nat) (res:List IR)
noncomputable def qik (T:Tr TI) (fl:Bool) (f:Func):Option IFB :=
 match f.body with
 | none=>none
 | some b =>
  match f.params.size+f.nfree with
  | nargs=>match j5t nargs (jl8 nargs [] b) f.results.toList with
   | acc=>match cB T fl (j33 0 nargs++acc) f.ntmps b,qb1 T (j33 0 nargs++acc) f.results.toList with
    | some c,some r=>bif Nat.ble nargs f.ntmps then some (.mk c nargs (jcx acc) r) else none
    | _,_=>none
noncomputable def TB (c:FuncId) (fl:Bool):Option IFB:=ob (Try.prog.funcs[c]?) (qik tys fl)
end Go.Proofs.Ytokcdoklcbgigaa.Ev
