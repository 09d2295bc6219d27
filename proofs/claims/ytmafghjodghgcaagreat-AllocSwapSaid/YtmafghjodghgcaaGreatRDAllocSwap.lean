/- The statement 'AllocSwap' as runs of the interpreter: what is run. Conditions: none. -/
import Derived.Test.YtmafghjodghgcaaGreatRQAllocSwap3
namespace Go.Proofs.YtmafghjodghgcaaGreat.allocSwap
open Go Go.Proofs.YtmafghjodghgcaaGreat.Ev
noncomputable def R (a : Nat) (c : Nat) : Bool := isTrue (runFn (withT rows2 (withT rows1 (withT rows0 (FBM ([((0, .ofNat 9), .lit (.ofNat a)), ((2, .ofNat 2), .lit (.ofNat c))]))))) 5000 4 [.s (.sym (.arg 0)), .s (.sym (.arg 1)), .s (.sym (.arg 2))] h0)
end Go.Proofs.YtmafghjodghgcaaGreat.allocSwap
