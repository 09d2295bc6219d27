/- The interpreter set to this program, some functions (a range over a function; loads in no order) among what it answers. -/
import Derived.Test.YtmcfkgjjnhlkiaaBack3
import Derived.Test.YtmcfkgjjnhlkiaaEnv
namespace Go.Proofs.Ytmcfkgjjnhlkiaa.Ev
open Go Go.RowKit
set_option linter.all false
set_option maxRecDepth 100000
inductive IFB where
 | mk (ib:IB) (nargs nslots:Nat) (res:List IR)
end Go.Proofs.Ytmcfkgjjnhlkiaa.Ev
