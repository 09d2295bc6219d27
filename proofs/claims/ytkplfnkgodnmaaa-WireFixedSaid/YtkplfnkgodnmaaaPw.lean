/- A block laid anew. -/
import Derived.Test.YtkplfnkgodnmaaaLz
namespace Go.Proofs.Ytkplfnkgodnmaaa.Ev
open Go Go.RowKit
set_option linter.all false
theorem jrx {h:Hp} (ok:Ok h) {b:Nat} (hb:1<=b) (x:Option AB):∃ hA,h.put b x=hA/\Ok hA/\hA.next=h.next/\hA.get b=x/\∀ n,n≠b->hA.get n=h.get n :=
 ⟨_,rfl,jdf ok,Hp.next_put ..,by rw[jba ok hb,if_pos rfl],fun n hn=>by rw[jba ok hb,if_neg hn]⟩
end Go.Proofs.Ytkplfnkgodnmaaa.Ev
