/- Code of functions as the interpreter has it prepared, cut at loops. -/
import Derived.Test.YthbghmhjgdonmaaMc11
import Derived.Test.YthbghmhjgdonmaaVd
namespace Go.Proofs.Ythbghmhjgdonmaa.Ev
open Go Go.RowKit
set_option linter.all false
set_option maxRecDepth 100000
open Go Go.RowKit Go.Proofs.Ythbghmhjgdonmaa.Ms
set_option maxHeartbeats 2000000
variable {h:Hp}
theorem j4m (ok:Ok h) (cs:List SV) (ty:Nat):∃ hA,h.push (AB.arr cs ty)=hA/\Ok hA/\hA.next=h.next+1/\hA.get h.next=some (.arr cs ty)/\∀ k,k<h.next->hA.get k=h.get k :=
 ⟨_,rfl,jdm ok,Hp.next_push ..,by rw[jbt ok,if_pos rfl],fun k hk=>by rw[jbt ok,if_neg (by omega)]⟩
theorem ju9 (ok:Ok h) (zs cs:List SV) (ty:Nat):∃ hA,(h.push (AB.arr zs ty)).put h.next (some (.arr cs ty))=hA/\Ok hA/\hA.next=h.next+1/\hA.get h.next=some (.arr cs ty)/\∀ k,k<h.next->hA.get k=h.get k:=by
 have hp:=ok.pos
 exact⟨_,rfl,jed (jdm ok),by rw[Hp.next_put,Hp.next_push],by rw[jbk (jdm ok) hp,if_pos rfl],fun k hk=>by rw[jbk (jdm ok) hp,if_neg (by omega),jbt ok,if_neg (by omega)]⟩
end Go.Proofs.Ythbghmhjgdonmaa.Ev
