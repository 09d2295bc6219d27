/- The statement 'OrderNone' as runs of the interpreter: what is run. Conditions: none. -/
import Derived.Test.YtjdabjjklepbkaaEnv
namespace Go.Proofs.Ytjdabjjklepbkaa.orderNone
open Go Go.Proofs.Ytjdabjjklepbkaa.Ev
noncomputable def R (a : Nat) (n : Nat) : Bool := isTrue (runFn (F [((0, .ofNat 9), .lit (.ofNat a)), ((1, .ofNat (3 + a)), .lit (.ofNat n))]) 5000 5 [.s (.sym (.arg 0)), .s (.sym (.arg 1))] h0)
end Go.Proofs.Ytjdabjjklepbkaa.orderNone
