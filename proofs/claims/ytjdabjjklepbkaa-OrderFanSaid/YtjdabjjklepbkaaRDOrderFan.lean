/- The statement 'OrderFan' as runs of the interpreter: what is run. Conditions: none. -/
import Derived.Test.YtjdabjjklepbkaaEnv
namespace Go.Proofs.Ytjdabjjklepbkaa.orderFan
open Go Go.Proofs.Ytjdabjjklepbkaa.Ev
noncomputable def R (a : Nat) (n : Nat) (k : Nat) : Bool := isTrue (runFn (F [((0, .ofNat 9), .lit (.ofNat a)), ((1, .ofNat (2 + a)), .lit (.ofNat n)), ((2, .ofNat 6), .lit (.ofNat k))]) 5000 6 [.s (.sym (.arg 0)), .s (.sym (.arg 1)), .s (.sym (.arg 2))] h0)
end Go.Proofs.Ytjdabjjklepbkaa.orderFan
