/- The statement 'MovesTurn' as runs of the interpreter: what is run; lists of symbols. Conditions: none. -/
import Derived.Test.YtagnejaajbmfbaaRQMovesTurn2
namespace Go.Proofs.Ytagnejaajbmfbaa.movesTurn
open Go Go.Proofs.Ytagnejaajbmfbaa.Ev
/-- so many symbols from the k-th argument on -/
noncomputable def symr (n k : Nat) : List (List SV) := Nat.rec (motive := fun _ => Nat → List (List SV)) (fun _ => []) (fun _ r k => List.cons (List.cons (SV.sym (.arg k)) []) (r (Nat.succ k))) n k
noncomputable def R (a b : Nat) (X : SV) : Bool := isTrue (runFn (withT rows1 (withT rows0 (FM [((0, .ofNat 4), .lit (.ofNat a)), ((1, .ofNat 3), .lit (.ofNat b))]))) 5000 3 [.s (.sym (.arg 0)), .s (.sym (.arg 1)), .s (.sym (.arg 2)), .s X] h0)
/-- all of n numbers from s on -/
noncomputable def fromN (n s : Nat) (p : Nat → Bool) : Bool := Nat.rec (motive := fun _ => Nat → Bool) (fun _ => true) (fun _ r s => oif (p s) (r (Nat.succ s)) false) n s
theorem fromN_all {p : Nat → Bool} : ∀ (n s : Nat), fromN n s p = true → ∀ i, s ≤ i → i < s + n → p i = true
  | 0, s, _, i, h1, h2 => absurd h2 (by omega)
  | n + 1, s, h, i, h1, h2 => by
    have h' : oif (p s) (fromN n (s + 1) p) false = true := h
    rw [oif_if] at h'
    split at h'
    · rename_i hp
      by_cases e : i = s
      · subst e; exact hp
      · exact fromN_all n (s + 1) h' i (by omega) (by omega)
    · cases h'
end Go.Proofs.Ytagnejaajbmfbaa.movesTurn
