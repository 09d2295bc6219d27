/- The statement 'AllocTight': tables of calls; the ground. Conditions: none. -/
import Derived.Test.YtmafghjodghgcaaGreatEnvBM
import Derived.Test.YtmafghjodghgcaaGreatIso
namespace Go.Proofs.YtmafghjodghgcaaGreat.allocTight
open Go Go.Proofs.YtmafghjodghgcaaGreat.Ev
def j (n : Nat) : SV := .int .i64 (.ofNat n)
def j0 : SV := .int .i64 (.ofNat 0)
def j1 : SV := .int .i64 (.ofNat 1)
def j2 : SV := .int .i64 (.ofNat 2)
def jm (n : Nat) : SV := .int .i64 (.negSucc n)
def jt : SV := .bool true
def jf : SV := .bool false
def jl (l : List (List SV)) : SV := .lst l
def jn : SV := .nilSlice
def js0 : SV := .sym (.arg 2)
def js1 : SV := .sym (.op .rem (.op .add (.op .add (.op .mul (.op .rem (.op .add (.op .add (.op .mul (.op .rem (.op .add (.op .add (.lit (.ofNat 217)) (.op .rem (.arg 2) (.lit (.ofNat 1000003)))) (.lit (.ofNat 1000003))) (.lit (.ofNat 1000003))) (.lit (.ofNat 31))) (.lit (.ofNat 0))) (.lit (.ofNat 1000003))) (.lit (.ofNat 1000003))) (.lit (.ofNat 31))) (.lit (.ofNat 0))) (.lit (.ofNat 1000003))) (.lit (.ofNat 1000003)))
def js2 : SV := .sym (.op .rem (.op .add (.op .add (.op .mul (.op .rem (.op .add (.op .add (.op .mul (.op .rem (.op .add (.op .add (.lit (.ofNat 217)) (.op .rem (.arg 2) (.lit (.ofNat 1000003)))) (.lit (.ofNat 1000003))) (.lit (.ofNat 1000003))) (.lit (.ofNat 31))) (.lit (.ofNat 1))) (.lit (.ofNat 1000003))) (.lit (.ofNat 1000003))) (.lit (.ofNat 31))) (.lit (.ofNat 0))) (.lit (.ofNat 1000003))) (.lit (.ofNat 1000003)))
def js3 : SV := .sym (.op .rem (.op .add (.op .add (.op .mul (.op .rem (.op .add (.op .add (.op .mul (.op .rem (.op .add (.op .add (.lit (.ofNat 217)) (.op .rem (.arg 2) (.lit (.ofNat 1000003)))) (.lit (.ofNat 1000003))) (.lit (.ofNat 1000003))) (.lit (.ofNat 31))) (.lit (.ofNat 2))) (.lit (.ofNat 1000003))) (.lit (.ofNat 1000003))) (.lit (.ofNat 31))) (.lit (.ofNat 0))) (.lit (.ofNat 1000003))) (.lit (.ofNat 1000003)))
def js4 : SV := .sym (.op .rem (.op .add (.op .add (.op .mul (.op .rem (.op .add (.op .add (.op .mul (.op .rem (.op .add (.op .add (.lit (.ofNat 217)) (.op .rem (.arg 2) (.lit (.ofNat 1000003)))) (.lit (.ofNat 1000003))) (.lit (.ofNat 1000003))) (.lit (.ofNat 31))) (.lit (.ofNat 3))) (.lit (.ofNat 1000003))) (.lit (.ofNat 1000003))) (.lit (.ofNat 31))) (.lit (.ofNat 0))) (.lit (.ofNat 1000003))) (.lit (.ofNat 1000003)))
def js5 : SV := .sym (.op .rem (.op .add (.op .add (.op .mul (.op .rem (.op .add (.op .add (.op .mul (.op .rem (.op .add (.op .add (.lit (.ofNat 217)) (.op .rem (.arg 2) (.lit (.ofNat 1000003)))) (.lit (.ofNat 1000003))) (.lit (.ofNat 1000003))) (.lit (.ofNat 31))) (.lit (.ofNat 4))) (.lit (.ofNat 1000003))) (.lit (.ofNat 1000003))) (.lit (.ofNat 31))) (.lit (.ofNat 0))) (.lit (.ofNat 1000003))) (.lit (.ofNat 1000003)))
def js6 : SV := .sym (.op .rem (.op .add (.op .add (.op .mul (.op .rem (.op .add (.op .add (.op .mul (.op .rem (.op .add (.op .add (.lit (.ofNat 217)) (.op .rem (.arg 2) (.lit (.ofNat 1000003)))) (.lit (.ofNat 1000003))) (.lit (.ofNat 1000003))) (.lit (.ofNat 31))) (.lit (.ofNat 5))) (.lit (.ofNat 1000003))) (.lit (.ofNat 1000003))) (.lit (.ofNat 31))) (.lit (.ofNat 0))) (.lit (.ofNat 1000003))) (.lit (.ofNat 1000003)))
noncomputable def G0 : Fns := FBM []
theorem e0 (A : Nat → Int) : Env Tryz.prog A tys G0 := envBM (fun i m r h => by cases h)
end Go.Proofs.YtmafghjodghgcaaGreat.allocTight
