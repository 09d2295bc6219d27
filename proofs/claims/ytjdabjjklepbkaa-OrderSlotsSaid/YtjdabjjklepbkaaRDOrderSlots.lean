/- The statement 'OrderSlots' as runs of the interpreter: what is run. Conditions: none. -/
import Derived.Test.YtjdabjjklepbkaaEnv
namespace Go.Proofs.Ytjdabjjklepbkaa.orderSlots
open Go Go.Proofs.Ytjdabjjklepbkaa.Ev
noncomputable def R (n : Nat) (c : Nat) : Bool := isTrue (runFn (F [((0, .ofNat 8), .lit (.ofNat n)), ((1, .ofNat 2), .lit (.ofNat c))]) 5000 7 [.s (.sym (.arg 0)), .s (.sym (.arg 1))] h0)
end Go.Proofs.Ytjdabjjklepbkaa.orderSlots
