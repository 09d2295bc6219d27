/- The statement 'PricesLine' as runs of the interpreter: what is run. Conditions: none. -/
import Derived.Test.YtgikghbgdpcapaaEnv
namespace Go.Proofs.Ytgikghbgdpcapaa.pricesLine
open Go Go.Proofs.Ytgikghbgdpcapaa.Ev
noncomputable def R (n : Nat) : Bool := isTrue (runFn (F [((0, .ofNat 30), .lit (.ofNat n))]) 5000 7 [.s (.sym (.arg 0))] h0)
end Go.Proofs.Ytgikghbgdpcapaa.pricesLine
