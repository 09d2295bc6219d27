/- The interpreter set to this program: its tables are the program's; 'picked' answered by a list. -/
import Derived.Test.YtmaaalpegnhjcaaDoorTab
import Derived.Test.YtmaaalpegnhjcaaDoorTy
import Derived.Test.YtmaaalpegnhjcaaDoorPick
import Derived.Test.YtmaaalpegnhjcaaDoorKit
namespace Go.Proofs.YtmaaalpegnhjcaaDoor.Ev
open Go Go.RowKit
set_option linter.unusedVariables false
set_option maxRecDepth 100000
theorem tysOk : Tys Tryd.prog tys := tysB_sound (by kernel_rfl)
noncomputable def T (f : FuncId) : Option IF := ob (Tryd.prog.funcs[f]?) (compF tys)
theorem names : Tryd.prog.funcs.toList.all (fun fn => !(fn.name == "runtime.NumGoroutine")) = true := by kernel_rfl
noncomputable def F (ps : List ((Nat × Int) × Sx)) : Fns := .mk T (fun f vs h => ob (picks 4 ps f vs) (fun v => ok v h))
theorem pickedOk : FnOk Tryd.prog 4 := ⟨_, Tryd.func4, by kernel_rfl, by kernel_rfl⟩
theorem env {A : Nat → Int} {ps : List ((Nat × Int) × Sx)} (h0 : ∀ i m r, ((i, m), r) ∈ ps → In64 (A i) ∧ 0 < m ∧ m ≤ 9223372036854775807 ∧ pick (A i) m = den A r) : Env Tryd.prog A tys (F ps) where
  tys := tysOk
  mix := by kernel_rfl
  fn := fun f i hf => by
    obtain ⟨fn, h1, h2⟩ := ob_some.1 (show ob (Tryd.prog.funcs[f]?) (compF tys) = some i from hf)
    refine ⟨fn, [], accOf fn, h1, h2, ?_⟩
    have := List.all_eq_true.1 names fn (by
      rw [← Array.getElem?_toList] at h1
      exact List.mem_of_getElem? h1)
    simpa using this
  ext := fun f vs h v h' hx => by
    obtain ⟨u, hu, h5⟩ := ob_some.1 (show ob (picks 4 ps f vs) (fun v => ok v h) = some (v, h') from hx)
    cases h5
    obtain ⟨rfl, i, m, r, rfl, hm, rfl⟩ := picks_some hu
    obtain ⟨h1, h2, h3, h4⟩ := h0 i m r hm
    refine ⟨pickedOk, fun k => Abs.refl _ k, fun φ w args rel ha => ?_⟩
    obtain ⟨l⟩ := args
    simp only at ha
    cases ha with
    | @cons _ x _ l1 hx1 h5 =>
      cases h5 with
      | @cons _ y _ l2 hy1 h6 =>
        cases h6
        have e1 : x = .int .i64 (A i) := hx1
        have e2 : y = .int .i64 (m : Int) := hy1
        subst e1 e2
        refine Calls.mono (picked_any (A i) m w h1.1 h1.2 h2 h3) ?_
        rintro e w' ⟨rfl, rfl⟩
        exact ⟨_, φ, rfl, Step.refl _ rel rfl rfl rfl rfl, rel, by rw [h4]; exact ofSx_cS A _ _⟩
/-! ### all cases -/
noncomputable def up (n : Nat) (f : Nat → Bool) : Bool := Nat.rec (motive := fun _ => Bool) true (fun k ih => oif (f k) ih false) n
theorem up_all {n : Nat} {f : Nat → Bool} (h : up n f = true) : ∀ k, k < n → f k = true := by
  induction n with
  | zero => intro k hk; omega
  | succ n ih =>
    have h' : oif (f n) (up n f) false = true := h
    rw [oif_if] at h'
    split at h'
    · rename_i h1
      intro k hk
      by_cases e : k = n
      · rw [e]; exact h1
      · exact ih h' k (by omega)
    · cases h'
noncomputable def both (f : Bool → Bool) : Bool := oif (f true) (f false) false
theorem both_all {f : Bool → Bool} (h : both f = true) (b : Bool) : f b = true := by
  have h' : oif (f true) (f false) false = true := h
  rw [oif_if] at h'
  split at h'
  · rename_i h1
    cases b
    · exact h'
    · exact h1
  · cases h'
theorem pick_case (a : Int) (m : Nat) (h : 0 < m) : ∃ r : Nat, r < m ∧ pick a (Int.ofNat m) = Int.ofNat r := by
  have h1 := pick_nn a (Int.ofNat m) (by simp only [Int.ofNat_eq_natCast]; omega)
  have h2 := pick_lt a (Int.ofNat m) (by simp only [Int.ofNat_eq_natCast]; omega)
  refine ⟨(pick a (Int.ofNat m)).toNat, ?_, ?_⟩
  · simp only [Int.ofNat_eq_natCast] at *; omega
  · simp only [Int.ofNat_eq_natCast] at *; omega
theorem bnd_case (A : Nat → Int) (a : Int) (j k m : Nat) (h : k + 1 = m) (hA : A j = pick a (Int.ofNat m)) : pick a (Int.ofNat m) = den A (.bnd j k) := by
  have h1 := pick_nn a (Int.ofNat m) (by simp only [Int.ofNat_eq_natCast]; omega)
  have h2 := pick_lt a (Int.ofNat m) (by simp only [Int.ofNat_eq_natCast]; omega)
  simp only [den, hA]
  rw [if_pos]
  simp only [Int.ofNat_eq_natCast] at *
  omega
/-! ### operations, in short -/
abbrev qP (o : PO) : IOper := .mk none (.p o) none
abbrev qA (o : AO) : IOper := .mk none (.a o) none
abbrev qQ (d : Nat) (o : PO) : IOper := .mk (some d) (.p o) none
abbrev qB (d : Nat) (o : AO) : IOper := .mk (some d) (.a o) none
abbrev qR (i : Nat) (t : Bool) (o : PO) : IOper := .mk none (.p o) (some (i, t))
abbrev qS (i : Nat) (t : Bool) (o : AO) : IOper := .mk none (.a o) (some (i, t))
abbrev qC (n : Int) : Od := .c (.s (.int .i64 n))
abbrev qa : Od := .l 0
abbrev qb : Od := .l 1
abbrev qc : Od := .l 2
abbrev qd : Od := .l 3
abbrev qM (i : Nat) : IOper := qP (.mv (.g i))
abbrev qL : IOper := qA (.load 1 false qa)
abbrev qK (n : Nat) : IOper := qA (.load n true qa)
abbrev qT (d : Nat) : IOper := qQ d (.mv qa)
abbrev qF (k i : Nat) : IOper := qP (.fld k (.g i))
abbrev qG (k : Nat) : IOper := qP (.fld k qa)
abbrev qN : IOper := qP (.nchk qa)
abbrev qI (n : Nat) : IOper := qP (.bin .add (.g n) (qC 1))
abbrev qr (l : List IOper) (c : IC) : IC := .seq (.region l) c
abbrev qX (i k : Nat) : IC := .cond (.g i) .skip (.exit k)
end Go.Proofs.YtmaaalpegnhjcaaDoor.Ev
