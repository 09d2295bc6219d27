/- The statement 'JudgeLimits': tables of calls; the ground. Conditions: none. -/
import Derived.Test.YtomkaghofeklcaaEnv
import Derived.Test.YtomkaghofeklcaaIso
namespace Go.Proofs.Ytomkaghofeklcaa.judgeLimits
open Go Go.Proofs.Ytomkaghofeklcaa.Ev
noncomputable def G0 : Fns := F []
theorem e0 (A : Nat → Int) : Env Try.prog A tys G0 := env (fun i m r h => by cases h)
end Go.Proofs.Ytomkaghofeklcaa.judgeLimits
