/- The statement 'SpansRing' as runs of the interpreter: what is run. Conditions: none. -/
import Derived.Test.YtgikghbgdpcapaaRQSpansRing2
namespace Go.Proofs.Ytgikghbgdpcapaa.spansRing
open Go Go.Proofs.Ytgikghbgdpcapaa.Ev
noncomputable def R (n : Nat) : Bool := isTrue (runFn (withT rows1 (withT rows0 (FB ([((0, .ofNat 20), .lit (.ofNat n))])))) 5000 5 [.s (.sym (.arg 0))] h0)
end Go.Proofs.Ytgikghbgdpcapaa.spansRing
