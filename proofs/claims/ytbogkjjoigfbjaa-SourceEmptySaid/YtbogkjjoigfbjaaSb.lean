/- Code of functions as the interpreter has it prepared, cut at loops. -/
import Derived.Test.YtbogkjjoigfbjaaMc11
import Derived.Test.YtbogkjjoigfbjaaVd
namespace Go.Proofs.Ytbogkjjoigfbjaa.Ev
open Go Go.RowKit
set_option linter.all false
set_option maxRecDepth 100000
open Go Go.RowKit Go.Proofs.Ytbogkjjoigfbjaa.Ms
set_option maxHeartbeats 2000000
variable {h:Hp}
theorem jrv (ok:Ok h) (cs:List SV) (ty:Nat):∃ hA,h.push (AB.arr cs ty)=hA/\Ok hA/\hA.next=h.next+1/\hA.get h.next=some (.arr cs ty)/\∀ k,k<h.next->hA.get k=h.get k :=
 ⟨_,rfl,jdr ok,Hp.next_push ..,by rw[jbz ok,if_pos rfl],fun k hk=>by rw[jbz ok,if_neg (by omega)]⟩
theorem j0p (ok:Ok h) (zs cs:List SV) (ty:Nat):∃ hA,(h.push (AB.arr zs ty)).put h.next (some (.arr cs ty))=hA/\Ok hA/\hA.next=h.next+1/\hA.get h.next=some (.arr cs ty)/\∀ k,k<h.next->hA.get k=h.get k:=by
 have hp:=ok.pos
 exact⟨_,rfl,jd7 (jdr ok),by rw[Hp.next_put,Hp.next_push],by rw[jbi (jdr ok) hp,if_pos rfl],fun k hk=>by rw[jbi (jdr ok) hp,if_neg (by omega),jbz ok,if_neg (by omega)]⟩
end Go.Proofs.Ytbogkjjoigfbjaa.Ev
