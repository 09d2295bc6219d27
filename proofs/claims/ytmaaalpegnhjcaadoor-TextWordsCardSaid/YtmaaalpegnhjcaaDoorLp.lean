/- Strings cut at a byte; numbers as digits: in a form that the kernel runs, and as the kit has them. No program in sight. -/
import Derived.Test.YtmaaalpegnhjcaaDoorOp
import Derived.Lib.Split
import Derived.Lib.IndexBytes
import Derived.Lib.ItoaNum
namespace Go.Proofs.YtmaaalpegnhjcaaDoor.Ev
open Go Go.RowKit
set_option linter.unusedVariables false
/-- what stands ahead of the first such byte, and behind it -/
noncomputable def cut1 (c : UInt8) (l : List UInt8) : Option (List UInt8 × List UInt8) :=
  List.rec (motive := fun _ => Option (List UInt8 × List UInt8)) none (fun b r ih => oif (Nat.beq (UInt8.toNat b) (UInt8.toNat c)) (some ([], r)) (ob ih (fun p => some (b :: p.1, p.2)))) l
/-- all that stands between such bytes -/
noncomputable def split1 (c : UInt8) (l : List UInt8) : List (List UInt8) :=
  List.rec (motive := fun _ => List (List UInt8)) [[]] (fun b _ ih => oif (Nat.beq (UInt8.toNat b) (UInt8.toNat c)) ([] :: ih) (List.casesOn (motive := fun _ => List (List UInt8)) ih [[b]] (fun a q => (b :: a) :: q))) l
theorem u8_beq (b c : UInt8) : Nat.beq b.toNat c.toNat = (b == c) := by
  by_cases h : b = c
  · subst h; rw [Nat.beq_refl, beq_self_eq_true]
  · rw [beq_eq_false_iff_ne.2 h]
    cases e : Nat.beq b.toNat c.toNat with
    | false => rfl
    | true => exact absurd (UInt8.toNat_inj.1 (Nat.eq_of_beq_eq_true e)) h
theorem cut1_nil (c : UInt8) : cut1 c [] = none := rfl
theorem cut1_cons (c b : UInt8) (l : List UInt8) : cut1 c (b :: l) = if b = c then some ([], l) else (cut1 c l).map (fun p => (b :: p.1, p.2)) := by
  show oif (Nat.beq b.toNat c.toNat) (some ([], l)) (ob (cut1 c l) (fun p => some (b :: p.1, p.2))) = _
  rw [u8_beq]
  by_cases h : b = c
  · rw [if_pos h, h, beq_self_eq_true]; rfl
  · rw [if_neg h, beq_eq_false_iff_ne.2 h]
    cases cut1 c l <;> rfl
theorem split1_nil (c : UInt8) : split1 c [] = [[]] := rfl
theorem split1_cons (c b : UInt8) (l : List UInt8) : split1 c (b :: l) = if b = c then [] :: split1 c l else match split1 c l with
    | [] => [[b]]
    | a :: q => (b :: a) :: q := by
  show oif (Nat.beq b.toNat c.toNat) ([] :: split1 c l) (List.casesOn (motive := fun _ => List (List UInt8)) (split1 c l) [[b]] (fun a q => (b :: a) :: q)) = _
  rw [u8_beq]
  by_cases h : b = c
  · rw [if_pos h, h, beq_self_eq_true]; rfl
  · rw [if_neg h, beq_eq_false_iff_ne.2 h]
    cases split1 c l <;> rfl
/-- where the first one stands -/
theorem cut1_none {c : UInt8} : ∀ {l : List UInt8}, cut1 c l = none → Lib.indexByte l c = -1 ∧ split1 c l = [l]
  | [], _ => ⟨rfl, rfl⟩
  | b :: l, h => by
    rw [cut1_cons] at h
    by_cases e : b = c
    · rw [if_pos e] at h; cases h
    · rw [if_neg e] at h
      have h' : cut1 c l = none := by cases h2 : cut1 c l with
        | none => rfl
        | some p => rw [h2] at h; cases h
      obtain ⟨i1, i2⟩ := cut1_none h'
      refine ⟨?_, ?_⟩
      · unfold Lib.indexByte
        rw [if_neg (by simpa using e), i1]; rfl
      · rw [split1_cons, if_neg e, i2]
theorem cut1_some {c : UInt8} : ∀ {l a r : List UInt8}, cut1 c l = some (a, r) → Lib.indexByte l c = (a.length : Int) ∧ l = a ++ c :: r ∧ split1 c l = a :: split1 c r
  | [], a, r, h => by cases h
  | b :: l, a, r, h => by
    rw [cut1_cons] at h
    by_cases e : b = c
    · rw [if_pos e] at h
      cases h
      subst e
      refine ⟨?_, rfl, ?_⟩
      · unfold Lib.indexByte
        rw [if_pos (by simp)]; rfl
      · rw [split1_cons, if_pos rfl]
    · rw [if_neg e] at h
      cases h2 : cut1 c l with
      | none => rw [h2] at h; cases h
      | some p =>
        obtain ⟨a', r'⟩ := p
        rw [h2] at h
        cases h
        obtain ⟨i1, i2, i3⟩ := cut1_some h2
        refine ⟨?_, by rw [i2]; rfl, ?_⟩
        · unfold Lib.indexByte
          rw [if_neg (by simpa using e), i1, if_neg (by simp)]
          simp
        · rw [split1_cons, if_neg e, i3]
theorem cut1_lib (c : UInt8) (l : List UInt8) : Lib.cut l [c] = match cut1 c l with
    | some (a, r) => (a, r, true)
    | none => (l, [], false) := by
  unfold Lib.cut
  rw [Lib.index_one]
  cases h : cut1 c l with
  | none =>
    rw [(cut1_none h).1, if_neg (by omega)]
  | some p =>
    obtain ⟨a, r⟩ := p
    obtain ⟨i1, i2, _⟩ := cut1_some h
    rw [i1, if_pos (by omega)]
    have e1 : ((a.length : Int)).toNat = a.length := Int.toNat_natCast _
    rw [e1, i2]
    simp
theorem split1_lib (c : UInt8) : ∀ (n : Nat) (l : List UInt8), l.length ≤ n → Lib.splitK [c] 0 (Lib.count l [c]) l = split1 c l ∧ (split1 c l).length = Lib.count l [c] + 1
  | n, l, hn => by
    cases h : cut1 c l with
    | none =>
      obtain ⟨i1, i2⟩ := cut1_none h
      rw [← Lib.index_one] at i1
      rw [Lib.count_miss i1, i2]
      exact ⟨rfl, rfl⟩
    | some p =>
      obtain ⟨a, r⟩ := p
      obtain ⟨i1, i2, i3⟩ := cut1_some h
      rw [← Lib.index_one] at i1
      have hl : l.length = a.length + (r.length + 1) := by rw [i2]; simp
      cases n with
      | zero => omega
      | succ n =>
        obtain ⟨j1, j2⟩ := split1_lib c n r (by omega)
        have hd : l.drop (a.length + [c].length) = r := by rw [i2]; simp
        have hc := Lib.count_hit (s := l) (sub := [c]) (by simp) i1
        rw [hd] at hc
        rw [hc, Nat.add_comm 1, i3]
        refine ⟨?_, by rw [List.length_cons, j2]⟩
        have e1 : ((a.length : Int)).toNat = a.length := Int.toNat_natCast _
        have h0 : ¬ ((Lib.index l [c] == -1) = true) := by rw [i1]; simp
        show (if (Lib.index l [c] == -1) = true then [l] else l.take ((Lib.index l [c]).toNat + 0) :: Lib.splitK [c] 0 (Lib.count r [c]) (l.drop ((Lib.index l [c]).toNat + [c].length))) = _
        rw [if_neg h0, i1, e1, hd, j1, Nat.add_zero]
        congr 1
        rw [i2]; simp
/-- digits: at most so many -/
noncomputable def dig (f : Nat) : Nat → List UInt8 → List UInt8 :=
  Nat.rec (motive := fun _ => Nat → List UInt8 → List UInt8) (fun _ acc => acc) (fun _ ih n acc => oif (Nat.ble n 9) (UInt8.ofNat (Nat.add 48 n) :: acc) (ih (Nat.div n 10) (UInt8.ofNat (Nat.add 48 (Nat.mod n 10)) :: acc))) f
theorem dig_eq : ∀ (f n : Nat) (acc : List UInt8), n < 10 ^ f → 1 ≤ f → dig f n acc = Lib.decDigits n ++ acc
  | 0, n, acc, h, h1 => by omega
  | f + 1, n, acc, h, _ => by
    show oif (Nat.ble n 9) (UInt8.ofNat (48 + n) :: acc) (dig f (n / 10) (UInt8.ofNat (48 + n % 10) :: acc)) = _
    unfold Lib.decDigits
    by_cases h1 : n < 10
    · rw [show Nat.ble n 9 = true from Nat.ble_eq_true_of_le (show n ≤ 9 by omega), dif_pos h1]; rfl
    · have e : Nat.ble n 9 = false := by
        cases e : Nat.ble n 9 with
        | false => rfl
        | true => have := Nat.le_of_ble_eq_true e; omega
      rw [e, dif_neg h1]
      show dig f (n / 10) _ = _
      have hf : 1 ≤ f := by
        cases f with
        | zero => simp at h; omega
        | succ f => omega
      rw [dig_eq f (n / 10) _ (by rw [Nat.pow_succ] at h; omega) hf, List.append_assoc]
      rfl
end Go.Proofs.YtmaaalpegnhjcaaDoor.Ev
