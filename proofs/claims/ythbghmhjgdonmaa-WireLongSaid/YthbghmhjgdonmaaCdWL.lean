/- A line of values, what its runs must answer. -/
import Derived.Test.YthbghmhjgdonmaaFh
import Derived.Test.YthbghmhjgdonmaaMa3
import Derived.Test.YthbghmhjgdonmaaMc4
namespace Go.Proofs.Ythbghmhjgdonmaa.Ev
open Go Go.RowKit Go.Proofs.Ythbghmhjgdonmaa.Ms
set_option linter.all false
set_option maxRecDepth 100000
def lnI (i:Nat):Ms.Ins:=⟨i % 256,(if i=0 then [] else [⟨1,i - 1,false,1,0⟩])++[⟨2,i,true,1,0⟩],[]⟩
def lnF (k:Nat):Fc:=⟨List.replicate k 0,[⟨[],(List.range k).map lnI,[]⟩]⟩
noncomputable def j6e (F:Fns) (n:Nat) (f:FuncId) (us:List AV) (u:AV):Bool:=Option.rec (motive:=fun _=>Bool) false (fun x=>eqA x u) (ob (jit F n f us h0) (fun p=>jtj true p.2 9 p.1))
theorem jsw {F:Fns} {n:Nat} {f:FuncId} {us:List AV} {u:AV} (h:j6e F n f us u=true):jiv true F f us u:=by
 unfold j6e at h
 cases hr:ob (jit F n f us h0) (fun p=>jtj true p.2 9 p.1) with
 | none=>rw[hr] at h;cases h
 | some x =>
  rw[hr] at h
  obtain rfl:=jwi _ _ h
  obtain⟨p,h1,h2⟩:=jaa.1 hr
  exact⟨n,p.1,p.2,h1,9,h2⟩
noncomputable def jgc (k:Nat):Bool:=j6e F0 4000 11 [.agg (j6r (lnF (Nat.succ k))),.agg [si 5,si 5]] (vi 0)
open Go Go.RowKit
def j15:IC:=qr [qQ 2 (.mv (.c (.s (.bool false))))] (qr [qA (.call 12 [qC 3,qC 3,.c (.s .nilSlice),qC 1,qC 2,.c (.s .nilSlice)]),qB 5 (.new 45 [.int .i64 0,.int .i64 0,.nilSlice,.nilSlice,.int .i64 0,.int .i64 0,.nilSlice]),qA (.store 7 qa qb)] (qr [qM 0,qA (.call 16 [qa,qC 30]),qP (.bin .add (qC 1) qa),qT 6] (qr [qM 6,qA (.call 17 [qa]),qF 2 5,qA (.store 2 qa qb)] (qr [qM 1,qA (.call 16 [qa,qC 65]),qA (.mkslice 3 1 8 [.int .i64 0] qa qa),qF 6 5,qA (.store 1 qa qb)] (qr [qA (.load 7 true (.g 5)),qA (.call 13 [qa]),qP (.mv qa),qP (.ext 0 qa),qP (.ext 1 qb),qQ 3 (.mv qb),qQ 4 (.mv qb)] (qr [qM 4,qP (.bin .eq qa (qC 0)),qP (.mv qa),qR 0 true (.mv (.g 3)),qR 1 true (.len qa),qR 2 true (.fld 6 (.g 5)),qS 3 true (.load 1 false qa),qR 4 true (.len qa),qR 5 true (.bin .mul (qC 4) qa),qR 6 true (.bin .add (qC 11) qa),qR 7 true (.bin .add qa (qC 1)),qR 8 true (.mv (.g 6)),qR 9 true (.bin .add qb qa),qR 10 true (.bin .add qa (qC 1)),qR 11 true (.bin .add qa (qC 1)),qR 12 true (.bin .add qa (qC 1)),qR 13 true (.mv (.g 6)),qR 14 true (.bin .mul (qC 3) qa),qR 15 true (.bin .add qc qa),qR 16 true (.mv (.g 6)),qR 17 true (.bin .mul (qC 2) qa),qR 18 true (.bin .sub qa (qC 1)),qR 19 true (.bin .mul (qC 3) qa),qR 20 true (.bin .add (.l 4) qa),qR 21 true (.bin .add qa (qC 1)),qR 22 true (.bin .eq (.l 20) qa),qP (.pick (.l 23) qa (.c (.s (.bool false)))),qT 2] .ret))))))
theorem j8c:T 6=some (.mk j15 2 5 [(.tmp 2)]):=by kernel_rfl
end Go.Proofs.Ythbghmhjgdonmaa.Ev
