/- The statement 'OrderBad' as runs of the interpreter: what is run. Conditions: none. -/
import Derived.Test.YtjdabjjklepbkaaEnv
namespace Go.Proofs.Ytjdabjjklepbkaa.orderBad
open Go Go.Proofs.Ytjdabjjklepbkaa.Ev
noncomputable def R (a : Nat) (n : Nat) (w : Nat) : Bool := isTrue (runFn (F [((0, .ofNat 9), .lit (.ofNat a)), ((1, .ofNat (2 + a)), .lit (.ofNat n)), ((2, .ofNat 4), .lit (.ofNat w))]) 5000 4 [.s (.sym (.arg 0)), .s (.sym (.arg 1)), .s (.sym (.arg 2))] h0)
end Go.Proofs.Ytjdabjjklepbkaa.orderBad
