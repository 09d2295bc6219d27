/- The statement 'AllocTight' as runs of the interpreter: what is run. Conditions: none. -/
import Derived.Test.YtmafghjodghgcaaGreatRQAllocTight3
namespace Go.Proofs.YtmafghjodghgcaaGreat.allocTight
open Go Go.Proofs.YtmafghjodghgcaaGreat.Ev
noncomputable def R (a : Nat) (x : Nat) (y : Nat) : Bool := isTrue (runFn (withT rows2 (withT rows1 (withT rows0 (FBM ([((0, .ofNat 9), .lit (.ofNat a)), ((1, .ofNat 2), .lit (.ofNat x)), ((1, .ofNat 3), .lit (.ofNat y))]))))) 5000 5 [.s (.sym (.arg 0)), .s (.sym (.arg 1)), .s (.sym (.arg 2))] h0)
end Go.Proofs.YtmafghjodghgcaaGreat.allocTight
