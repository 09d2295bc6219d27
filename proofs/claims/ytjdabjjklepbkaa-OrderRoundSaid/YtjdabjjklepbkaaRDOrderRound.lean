/- The statement 'OrderRound' as runs of the interpreter: what is run. Conditions: none. -/
import Derived.Test.YtjdabjjklepbkaaEnv
namespace Go.Proofs.Ytjdabjjklepbkaa.orderRound
open Go Go.Proofs.Ytjdabjjklepbkaa.Ev
noncomputable def R (a : Nat) (c : Nat) (n : Nat) : Bool := isTrue (runFn (F [((0, .ofNat 9), .lit (.ofNat a)), ((2, .ofNat 2), .lit (.ofNat c)), ((1, .ofNat (1 + a)), .lit (.ofNat n))]) 5000 3 [.s (.sym (.arg 0)), .s (.sym (.arg 1)), .s (.sym (.arg 2))] h0)
end Go.Proofs.Ytjdabjjklepbkaa.orderRound
