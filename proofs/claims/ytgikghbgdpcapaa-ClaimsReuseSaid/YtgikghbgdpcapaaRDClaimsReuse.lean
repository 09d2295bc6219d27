/- The statement 'ClaimsReuse' as runs of the interpreter: what is run. Conditions: none. -/
import Derived.Test.YtgikghbgdpcapaaEnv
namespace Go.Proofs.Ytgikghbgdpcapaa.claimsReuse
open Go Go.Proofs.Ytgikghbgdpcapaa.Ev
noncomputable def R (n : Nat) : Bool := isTrue (runFn (F [((0, .ofNat 8), .lit (.ofNat n))]) 5000 6 [.s (.sym (.arg 0))] h0)
end Go.Proofs.Ytgikghbgdpcapaa.claimsReuse
