/- What an abstract value, an abstract heap say of the model's values and memory; and the interpreter's small steps in plain words. No program in sight. -/
import Derived.Test.YtmaaalpegnhjcaaDoorComp
namespace Go.Proofs.YtmaaalpegnhjcaaDoor.Ev
open Go
set_option linter.unusedVariables false

/-! ### recursors in plain words -/
section
variable {α β : Type}
theorem ob_some {x : Option α} {f : α → Option β} {r : β} : ob x f = some r ↔ ∃ a, x = some a ∧ f a = some r := by
  cases x <;> simp [ob]
theorem oif_eq {α : Sort _} (b : Bool) (x y : α) : Bool.rec (motive := fun _ => α) y x b = if b then x else y := by cases b <;> rfl
theorem oif_if (b : Bool) (x y : α) : oif b x y = if b then x else y := by cases b <;> rfl
theorem oif_some {b : Bool} {x : Option α} {r : α} : oif b x none = some r ↔ b = true ∧ x = some r := by
  cases b <;> simp [oif]
theorem lget_eq (l : List α) : ∀ i, lget l i = l[i]? := by
  induction l with
  | nil => intro i; rfl
  | cons a l ih => intro i; cases i with
    | zero => rfl
    | succ j => exact (ih j).trans (by simp)
theorem lset_eq (l : List α) : ∀ i x, lset l i x = l.set i x := by
  induction l with
  | nil => intro i x; rfl
  | cons a l ih => intro i x; cases i with
    | zero => rfl
    | succ j => exact congrArg (a :: ·) (ih j x)
theorem ldrop_eq (n : Nat) : ∀ l : List α, ldrop n l = l.drop n := by
  induction n with
  | zero => intro l; rfl
  | succ n ih => intro l; cases l with
    | nil => rfl
    | cons a l => exact ih l
theorem ltake_some (n : Nat) : ∀ {l r : List α}, ltake n l = some r ↔ n ≤ l.length ∧ r = l.take n := by
  induction n with
  | zero => intro l r; exact ⟨fun h => ⟨Nat.zero_le _, (Option.some.inj h).symm⟩, fun h => congrArg some h.2.symm⟩
  | succ n ih => intro l r; cases l with
    | nil => simp [ltake]
    | cons a l =>
      have : ltake (n + 1) (a :: l) = ob (ltake n l) (fun x => some (a :: x)) := rfl
      rw [this, ob_some]
      constructor
      · rintro ⟨x, hx, hr⟩
        obtain ⟨h1, rfl⟩ := (ih (r := x)).1 hx
        simp at hr
        exact ⟨by simpa using h1, by simp [hr]⟩
      · rintro ⟨h1, rfl⟩
        exact ⟨l.take n, ih.2 ⟨by simpa using h1, rfl⟩, by simp⟩
theorem lapp_eq (l r : List α) : lapp l r = l ++ r := by
  induction l with
  | nil => rfl
  | cons a l ih => exact congrArg (a :: ·) ih
theorem llen_eq (l : List α) : llen l = l.length := by
  induction l with
  | nil => rfl
  | cons a l ih => exact congrArg Nat.succ ih
theorem lover_some (xs : List α) : ∀ {l r : List α}, lover xs l = some r ↔ xs.length ≤ l.length ∧ r = xs ++ l.drop xs.length := by
  induction xs with
  | nil => intro l r; simp [lover, eq_comm]
  | cons x xs ih => intro l r; cases l with
    | nil => simp [lover]
    | cons a l =>
      have : lover (x :: xs) (a :: l) = ob (lover xs l) (fun y => some (x :: y)) := rfl
      rw [this, ob_some]
      constructor
      · rintro ⟨y, hy, hr⟩
        obtain ⟨h1, rfl⟩ := (ih (r := y)).1 hy
        simp at hr
        exact ⟨by simpa using h1, by simp [hr]⟩
      · rintro ⟨h1, rfl⟩
        exact ⟨_, ih.2 ⟨by simpa using h1, rfl⟩, by simp⟩
theorem loverAt_some (n : Nat) : ∀ {xs l r : List α}, loverAt n xs l = some r ↔ n + xs.length ≤ l.length ∧ r = l.take n ++ (xs ++ l.drop (n + xs.length)) := by
  induction n with
  | zero => intro xs l r; exact (lover_some xs).trans (by simp)
  | succ n ih => intro xs l r; cases l with
    | nil => simp [loverAt]
    | cons a l =>
      have : loverAt (n + 1) xs (a :: l) = ob (loverAt n xs l) (fun y => some (a :: y)) := rfl
      rw [this, ob_some]
      constructor
      · rintro ⟨y, hy, hr⟩
        obtain ⟨h1, rfl⟩ := (ih (r := y)).1 hy
        simp at hr
        exact ⟨by simp; omega, by rw [← hr]; simp [Nat.add_right_comm]⟩
      · rintro ⟨h1, rfl⟩
        simp at h1
        exact ⟨_, ih.2 ⟨by omega, rfl⟩, by simp [Nat.add_right_comm]⟩
theorem rep_len (l : List SV) : ∀ n, (rep l n).length = n * l.length
  | 0 => by rw [Nat.zero_mul]; rfl
  | n + 1 => by
    have : rep l (n + 1) = lapp l (rep l n) := rfl
    rw [this, lapp_eq, List.length_append, rep_len l n, Nat.succ_mul, Nat.add_comm]
theorem rep_get (l : List SV) : ∀ n i, i < n * l.length → (rep l n)[i]? = l[i % l.length]?
  | 0, i, h => by simp at h
  | n + 1, i, h => by
    have : rep l (n + 1) = l ++ rep l n := lapp_eq _ _
    rw [this, List.getElem?_append]
    split
    · rename_i h1; rw [Nat.mod_eq_of_lt h1]
    · rename_i h1
      rw [rep_get l n _ (by rw [Nat.succ_mul] at h; omega), ← Nat.mod_eq_sub_mod (by omega)]
end
theorem nbeq (a b : Nat) : (Nat.beq a b = true) = (a = b) := propext ⟨Nat.eq_of_beq_eq_true, fun h => h ▸ Nat.beq_refl a⟩
theorem nble (a b : Nat) : (Nat.ble a b = true) = (a ≤ b) := Nat.ble_eq
theorem ieq_iff (a b : Int) : ieq a b = decide (a = b) := by
  rw [Bool.eq_iff_iff]
  cases a <;> cases b <;> simp [ieq] <;> omega
theorem ile_iff (a b : Int) : ile a b = decide (a ≤ b) := by
  rw [Bool.eq_iff_iff]
  cases a <;> cases b <;> simp [ile] <;> omega
theorem iadd_eq (a b : Int) : iadd a b = a + b := by
  cases a <;> cases b <;> rfl
theorem bnot_eq (b : Bool) : bnot b = !b := by cases b <;> rfl
theorem ikn_inj {k k' : IntKind} (h : Nat.beq (ikn k) (ikn k') = true) : k = k' := by
  cases k <;> cases k' <;> first | rfl | exact absurd h (by decide)
theorem isI64_iff {k : IntKind} (h : isI64 k = true) : k = .i64 := by
  cases k <;> first | rfl | exact absurd h (by decide)
theorem isU64_iff {k : IntKind} (h : isU64 k = true) : k = .u64 := by
  cases k <;> first | rfl | exact absurd h (by decide)
theorem boN_inj {a b : BO} (h : Nat.beq (boN a) (boN b) = true) : a = b := by
  cases a <;> cases b <;> first | rfl | exact absurd h (by decide)
theorem sxEq_sound : ∀ a b, sxEq a b = true → a = b := by
  intro a
  induction a with
  | arg i => intro b h; cases b <;> simp [sxEq] at h; rw [h]
  | lit n => intro b h; cases b <;> simp [sxEq, ieq_iff] at h; rw [h]
  | op o x y ihx ihy =>
    intro b h
    cases b with
    | op o' x' y' =>
      have h' : oif (Nat.beq (boN o) (boN o')) (oif (sxEq x x') (sxEq y y') false) false = true := h
      simp only [oif_if] at h'
      split at h'
      · rename_i h1
        split at h'
        · rename_i h2; rw [boN_inj h1, ihx _ h2, ihy _ h']
        · cases h'
      · cases h'
    | _ => simp [sxEq] at h
  | bnd i m =>
    intro b h
    cases b with
    | bnd j n =>
      have h' : oif (Nat.beq i j) (Nat.beq m n) false = true := h
      rw [oif_if] at h'
      split at h'
      · rename_i h1; rw [nbeq] at h1 h'; rw [h1, h']
      · cases h'
    | _ => simp [sxEq] at h
/-- bounds of a kind, as the interpreter knows them -/
theorem inR_bounds {k : IntKind} {n : Int} (h : inR k n = true) : (k = .i64 ∧ -9223372036854775808 ≤ n ∧ n ≤ 9223372036854775807) ∨ (k = .u8 ∧ 0 ≤ n ∧ n ≤ 255) ∨ (k = .u64 ∧ 0 ≤ n ∧ n ≤ 18446744073709551615) := by
  cases k
  case i64 =>
    refine .inl ⟨rfl, ?_⟩
    cases n with
    | ofNat m => have h' : Nat.ble m 9223372036854775807 = true := h; rw [nble] at h'; simp; omega
    | negSucc m => have h' : Nat.ble m 9223372036854775807 = true := h; rw [nble] at h'; omega
  case u8 =>
    refine .inr (.inl ⟨rfl, ?_⟩)
    cases n with
    | ofNat m => have h' : Nat.ble m 255 = true := h; rw [nble] at h'; simp; omega
    | negSucc m => exact Bool.noConfusion h
  case u64 =>
    refine .inr (.inr ⟨rfl, ?_⟩)
    cases n with
    | ofNat m => have h' : Nat.ble m 18446744073709551615 = true := h; rw [nble] at h'; simp; omega
    | negSucc m => exact Bool.noConfusion h
  all_goals exact absurd h (by cases n <;> exact fun h => Bool.noConfusion h)
theorem inR_wrap {k : IntKind} {n : Int} (h : inR k n = true) : k.wrap n = n := by
  rcases inR_bounds h with ⟨rfl, h1, h2⟩ | ⟨rfl, h1, h2⟩ | ⟨rfl, h1, h2⟩ <;> simp [IntKind.wrap, IntKind.bits, IntKind.signed] <;> omega

/-! ### two lists side by side -/
inductive All2 {α β : Type} (R : α → β → Prop) : List α → List β → Prop where
  | nil : All2 R [] []
  | cons {a : α} {b : β} {l : List α} {r : List β} : R a b → All2 R l r → All2 R (a :: l) (b :: r)
namespace All2
variable {α β : Type} {R S : α → β → Prop}
theorem len {l : List α} {r : List β} (h : All2 R l r) : l.length = r.length := by
  induction h with
  | nil => rfl
  | cons _ _ ih => simp [ih]
theorem get {l : List α} {r : List β} (h : All2 R l r) : ∀ (i : Nat) (a : α), l[i]? = some a → ∃ b, r[i]? = some b ∧ R a b := by
  induction h with
  | nil => intro i a h; simp at h
  | cons hab _ ih =>
    intro i a h
    cases i with
    | zero => simp at h; subst h; exact ⟨_, rfl, hab⟩
    | succ i => exact ih i a (by simpa using h)
theorem of_get : ∀ {l : List α} {r : List β}, l.length = r.length → (∀ (i : Nat) a b, l[i]? = some a → r[i]? = some b → R a b) → All2 R l r
  | [], [], _, _ => .nil
  | a :: l, b :: r, h, k => .cons (k 0 a b rfl rfl) (of_get (by simpa using h) (fun i x y hx hy => k (i + 1) x y (by simpa using hx) (by simpa using hy)))
theorem append {l : List α} {r : List β} {l' : List α} {r' : List β} (h : All2 R l r) (k : All2 R l' r') : All2 R (l ++ l') (r ++ r') := by
  induction h with
  | nil => exact k
  | cons a _ ih => exact .cons a ih
theorem take {l : List α} {r : List β} (h : All2 R l r) : ∀ n, All2 R (l.take n) (r.take n) := by
  induction h with
  | nil => intro n; simp; exact .nil
  | cons a _ ih => intro n; cases n with
    | zero => simp; exact .nil
    | succ n => simp; exact .cons a (ih n)
theorem drop {l : List α} {r : List β} (h : All2 R l r) : ∀ n, All2 R (l.drop n) (r.drop n) := by
  induction h with
  | nil => intro n; simp; exact .nil
  | cons a t ih => intro n; cases n with
    | zero => simp; exact .cons a t
    | succ n => simp; exact ih n
theorem mono (h : ∀ a b, R a b → S a b) {l : List α} {r : List β} (k : All2 R l r) : All2 S l r := by
  induction k with
  | nil => exact .nil
  | cons a _ ih => exact .cons (h _ _ a) ih
end All2

/-! ### values -/
/-- where a name lies: a real block, a place in it; how many cells the block has -/
structure Lc where
  b : Nat
  o : Nat
  lim : Nat
/-- where names lie; and blocks that stay as they are, with their cells -/
structure Phi where
  m : Nat → Option Lc
  k : Nat → Option (Array Value)
  g : GK k
instance : CoeFun Phi (fun _ => Nat → Option Lc) := ⟨Phi.m⟩
/-- what an unknown number is, the arguments given -/
def den (A : Nat → Int) : Sx → Int
  | .arg i => A i
  | .lit n => n
  | .op o a b => match o with
    | .add => IntKind.i64.wrap (den A a + den A b)
    | .sub => IntKind.i64.wrap (den A a - den A b)
    | .mul => IntKind.i64.wrap (den A a * den A b)
    | .quo => IntKind.i64.wrap ((den A a).tdiv (den A b))
    | .rem => (den A a).tmod (den A b)
    | _ => 0
  | .bnd i m => if 0 ≤ A i ∧ A i ≤ (m : Int) then A i else 0
/-- a scalar that names nothing of the heap against a real value -/
inductive cD (A : Nat → Int) (k : Nat → Option (Array Value)) : SV → Value → Prop where
  | bool (b : Bool) : cD A k (.bool b) (.bool b)
  | int (q : IntKind) (n : Int) : cD A k (.int q n) (.int q n)
  | sym (e : Sx) : cD A k (.sym e) (.int .i64 (den A e))
  | nilPtr : cD A k .nilPtr (.pointer none)
  | nilSlice : cD A k .nilSlice (.slice none 0 0)
  | nilFunc : cD A k .nilFunc .nilFunc
  | nilMap : cD A k .nilMap (.map none)
  | ifc0 : cD A k (.ifc false) .nilIface
  | ifc1 (t : TypeId) (p : Value) : cD A k (.ifc true) (.iface t p)
  | str (l : List UInt8) : cD A k (.str l) (.string ⟨l.toArray⟩)
  | lst0 (ad : Addr) (cap : Nat) : cD A k (.lst []) (.slice (some ad) 0 cap)
  | lst (rows : List (List SV)) (b o cap sz : Nat) (cs : Array Value) (g : Nat → Nat → Value) : k b = some cs → rows.length ≤ cap → (∀ (i : Nat) (row : List SV), rows[i]? = some row → row.length = sz) →
      (∀ (i j : Nat) (row : List SV) (x : SV), rows[i]? = some row → row[j]? = some x → cs[o + i * sz + j]? = some (g i j)) → (∀ (i j : Nat) (row : List SV) (x : SV), rows[i]? = some row → row[j]? = some x → cD A k x (g i j)) → cD A k (.lst rows) (.slice (some ⟨b, o, none⟩) rows.length cap)
def cPtr (φ : Phi) (n i : Nat) (v : Value) : Prop := ∃ L, φ n = some L ∧ v = .pointer (some ⟨L.b, L.o + i, none⟩)
def isIfc (b : Bool) (v : Value) : Prop := (b = true ∧ ∃ t p, v = .iface t p) ∨ (b = false ∧ v = .nilIface)
/-- a scalar against a real value -/
def cS (A : Nat → Int) (φ : Phi) : SV → Value → Prop
  | .bool b, v => v = .bool b
  | .int k n, v => v = .int k n
  | .sym e, v => v = .int .i64 (den A e)
  | .ptr n i, v => cPtr φ n i v
  | .nilPtr, v => v = .pointer none
  | .slice n i len mc ex sz, v => ∃ L ad cap, φ n = some L ∧ v = .slice (some ad) len cap ∧ mc ≤ cap ∧ len ≤ mc ∧ (ex = true → cap = mc) ∧ ((ad = ⟨L.b, L.o + i, none⟩ ∧ L.o + i + cap * sz ≤ L.lim) ∨ cap = 0)
  | .nilSlice, v => v = .slice none 0 0
  | .func f caps, v => ∃ vs : List Value, v = .func (.func f) #[] vs.toArray ∧ All2 (fun p x => cPtr φ p.1 p.2 x) caps vs
  | .nilFunc, v => v = .nilFunc
  | .nilMap, v => v = .map none
  | .map n, v => ∃ L, φ n = some L ∧ v = .map (some L.b)
  | .str l, v => v = .string ⟨l.toArray⟩
  | .lst rows, v => cD A φ.k (.lst rows) v
  | .cp cells, v => ∃ b o cs, φ.k b = some cs ∧ v = .pointer (some ⟨b, o, none⟩) ∧ ∀ (j : Nat) (x : SV), cells[j]? = some x → ∃ u, cs[o + j]? = some u ∧ cD A φ.k x u
  | .emp, v => ∃ ad, v = .slice (some ad) 0 0
  | .ifc b, v => isIfc b v
def cV1 (A : Nat → Int) (φ : Phi) (agg : Bool) (cs : List SV) (v : Value) : Prop :=
  if agg then ∃ vs : List Value, v = .agg vs.toArray ∧ All2 (cS A φ) cs vs else ∃ x, cs = [x] ∧ cS A φ x v
def cV (A : Nat → Int) (φ : Phi) : AV → Value → Prop
  | .s x, v => cS A φ x v
  | .agg l, v => ∃ vs : List Value, v = .agg vs.toArray ∧ All2 (cS A φ) l vs
  | .tup l, v => ∃ vs : List Value, v = .tuple vs.toArray ∧ All2 (fun p x => cV1 A φ p.1 p.2 x) l vs
  | .undef, v => v = Go.undef
  | .any, _ => True
/-- one map of names says no less than another -/
structure Phi.le (φ ψ : Phi) : Prop where
  nm : ∀ n L, φ n = some L → ψ n = some L
  con : ∀ b cs, φ.k b = some cs → ψ.k b = some cs
theorem Phi.le_refl (φ : Phi) : φ.le φ := ⟨fun _ _ h => h, fun _ _ h => h⟩
theorem Phi.le_trans {φ ψ χ : Phi} (h : φ.le ψ) (k : ψ.le χ) : φ.le χ := ⟨fun n L e => k.nm n L (h.nm n L e), fun b cs e => k.con b cs (h.con b cs e)⟩
theorem cD.mono {A : Nat → Int} {k k' : Nat → Option (Array Value)} (h : ∀ b cs, k b = some cs → k' b = some cs) {x : SV} {v : Value} (d : cD A k x v) : cD A k' x v := by
  induction d with
  | bool b => exact .bool b
  | int q n => exact .int q n
  | sym e => exact .sym e
  | nilPtr => exact .nilPtr
  | nilSlice => exact .nilSlice
  | nilFunc => exact .nilFunc
  | nilMap => exact .nilMap
  | str l => exact .str l
  | ifc0 => exact .ifc0
  | ifc1 t p => exact .ifc1 t p
  | lst0 ad cap => exact .lst0 ad cap
  | lst rows b o cap sz cs g h1 h2 h3 h4 h5 ih => exact .lst rows b o cap sz cs g (h _ _ h1) h2 h3 h4 ih
section
variable {A : Nat → Int} {φ ψ : Phi}
theorem cPtr.mono (h : φ.le ψ) {n i : Nat} {v : Value} (k : cPtr φ n i v) : cPtr ψ n i v :=
  let ⟨L, e, r⟩ := k; ⟨L, h.nm _ _ e, r⟩
theorem cS.mono (h : φ.le ψ) {x : SV} {v : Value} (k : cS A φ x v) : cS A ψ x v := by
  cases x with
  | ptr n i => exact cPtr.mono h k
  | slice n i len mc ex sz =>
    obtain ⟨L, ad, cap, e, r⟩ := k
    exact ⟨L, ad, cap, h.nm _ _ e, r⟩
  | func f caps =>
    obtain ⟨vs, e, r⟩ := k
    exact ⟨vs, e, r.mono (fun _ _ => cPtr.mono h)⟩
  | map n => obtain ⟨L, e, r⟩ := k; exact ⟨L, h.nm _ _ e, r⟩
  | lst rows => exact cD.mono h.con k
  | cp cells =>
    obtain ⟨b, o, cs, e, r, q⟩ := k
    exact ⟨b, o, cs, h.con _ _ e, r, fun j x hx => let ⟨u, a, d⟩ := q j x hx; ⟨u, a, d.mono h.con⟩⟩
  | _ => exact k
/-- what names nothing of the heap -/
theorem cD.toS {x : SV} {v : Value} (d : cD A φ.k x v) : cS A φ x v := by
  cases d with
  | lst0 ad cap => exact .lst0 ad cap
  | lst rows b o cap sz cs g h1 h2 h3 h4 h5 => exact .lst rows b o cap sz cs g h1 h2 h3 h4 h5
  | ifc0 => exact .inr ⟨rfl, rfl⟩
  | ifc1 t p => exact .inl ⟨rfl, t, p, rfl⟩
  | _ => rfl
theorem cS.toD {x : SV} {v : Value} (k : cS A φ x v) (h : grd x = true) : cD A φ.k x v := by
  cases x with
  | bool b => cases k; exact .bool b
  | int q n => cases k; exact .int q n
  | sym e => cases k; exact .sym e
  | nilPtr => cases k; exact .nilPtr
  | nilSlice => cases k; exact .nilSlice
  | nilFunc => cases k; exact .nilFunc
  | nilMap => cases k; exact .nilMap
  | str l => cases k; exact .str l
  | lst rows => exact k
  | _ => cases h
theorem grds_all : ∀ {l : List SV}, grds l = true → ∀ x ∈ l, grd x = true
  | [], _, x, hx => by simp at hx
  | a :: l, h, x, hx => by
    have h' : oif (grd a) (grds l) false = true := h
    rw [oif_if] at h'
    split at h'
    · rename_i h1
      rcases List.mem_cons.1 hx with rfl | h2
      · exact h1
      · exact grds_all h' x h2
    · cases h'
theorem cV1.mono (h : φ.le ψ) {g : Bool} {l : List SV} {v : Value} (k : cV1 A φ g l v) : cV1 A ψ g l v := by
  unfold cV1 at *
  split
  · rename_i hp; rw [if_pos hp] at k; obtain ⟨ws, e, r⟩ := k; exact ⟨ws, e, r.mono (fun _ _ => cS.mono h)⟩
  · rename_i hp; rw [if_neg hp] at k; obtain ⟨y, e, r⟩ := k; exact ⟨y, e, cS.mono h r⟩
theorem cV.mono (h : φ.le ψ) {x : AV} {v : Value} (k : cV A φ x v) : cV A ψ x v := by
  cases x with
  | s x => exact cS.mono h k
  | agg l => obtain ⟨vs, e, r⟩ := k; exact ⟨vs, e, r.mono (fun _ _ => cS.mono h)⟩
  | tup l =>
    obtain ⟨vs, e, r⟩ := k
    exact ⟨vs, e, r.mono (fun p x hx => cV1.mono h hx)⟩
  | undef => exact k
  | any => exact k
theorem cS.one {x : SV} {v : Value} (k : cS A φ x v) : v.oneCell' = true ∧ v.cells = #[v] := by
  cases x with
  | ptr n i => obtain ⟨L, _, rfl⟩ := k; exact ⟨rfl, rfl⟩
  | slice n i len mc ex sz => obtain ⟨L, ad, cap, _, rfl, _⟩ := k; exact ⟨rfl, rfl⟩
  | func f caps => obtain ⟨vs, rfl, _⟩ := k; exact ⟨rfl, rfl⟩
  | map n => obtain ⟨L, _, rfl⟩ := k; exact ⟨rfl, rfl⟩
  | lst rows =>
    have k' : cD A φ.k (.lst rows) v := k
    cases k' <;> exact ⟨rfl, rfl⟩
  | cp cells => obtain ⟨b, o, cs, _, rfl, _⟩ := k; exact ⟨rfl, rfl⟩
  | emp => obtain ⟨ad, rfl⟩ := k; exact ⟨rfl, rfl⟩
  | ifc b => rcases k with ⟨_, t, p, rfl⟩ | ⟨_, rfl⟩ <;> exact ⟨rfl, rfl⟩
  | _ => cases k; exact ⟨rfl, rfl⟩
theorem cV1.cells {g : Bool} {l : List SV} {v : Value} (k : cV1 A φ g l v) : All2 (cS A φ) l v.cells.toList := by
  unfold cV1 at k
  split at k
  · obtain ⟨vs, rfl, r⟩ := k; simpa [Value.cells] using r
  · obtain ⟨y, rfl, r⟩ := k; rw [r.one.2]; exact .cons r .nil
/-- the cells of a value that has some -/
theorem cV.cells {x : AV} {v : Value} {β : Type} {f : List SV → Option β} {r : β} (k : cV A φ x v) (h : cel x f = some r) :
    ∃ cs, f cs = some r ∧ All2 (cS A φ) cs v.cells.toList := by
  cases x with
  | s x =>
    have k' : cS A φ x v := k
    exact ⟨[x], h, by rw [k'.one.2]; exact .cons k' .nil⟩
  | agg l => obtain ⟨vs, rfl, r⟩ := k; exact ⟨l, h, by simpa [Value.cells] using r⟩
  | _ => cases h
theorem mkAV_some {g : Bool} {cs : List SV} {x : AV} (h : mkAV g cs = some x) : (g = true ∧ x = .agg cs) ∨ (g = false ∧ ∃ s, cs = [s] ∧ x = .s s) := by
  cases g with
  | true => exact .inl ⟨rfl, by simp [mkAV] at h; exact h.symm⟩
  | false =>
    match cs, h with
    | [a], h => exact .inr ⟨rfl, a, rfl, by simp [mkAV] at h; exact h.symm⟩
    | [], h => simp [mkAV] at h
    | a :: b :: r, h => simp [mkAV] at h
end

/-! ### the heap -/
section
variable {α : Type}
theorem tr_get_leaf (k : Nat) : (Tr.leaf : Tr α).get k = none := rfl
theorem tr_get_node (l r : Tr α) (v : Option α) (k : Nat) : (Tr.node l v r).get k = if k = 1 then v else if k % 2 = 1 then r.get (k / 2) else l.get (k / 2) := by
  have h : (Tr.node l v r).get k = Bool.rec (motive := fun _ => Option α) (Bool.rec (motive := fun _ => Option α) (l.get (Nat.div k 2)) (r.get (Nat.div k 2)) (Nat.beq (Nat.land k 1) 1)) v (Nat.beq k 1) := rfl
  rw [h, oif_eq, oif_eq]
  have e : Nat.land k 1 = k % 2 := Nat.and_one_is_mod k
  rw [e]
  simp only [nbeq]
  rfl
theorem tr_put_leaf (n k : Nat) (x : Option α) : (Tr.leaf : Tr α).put (n + 1) k x = if k = 1 then .node .leaf x .leaf else if k % 2 = 1 then .node .leaf none ((Tr.leaf : Tr α).put n (k / 2) x) else .node ((Tr.leaf : Tr α).put n (k / 2) x) none .leaf := by
  have h : (Tr.leaf : Tr α).put (n + 1) k x = Bool.rec (motive := fun _ => Tr α) (Bool.rec (motive := fun _ => Tr α) (.node ((Tr.leaf : Tr α).put n (Nat.div k 2) x) none .leaf) (.node .leaf none ((Tr.leaf : Tr α).put n (Nat.div k 2) x)) (Nat.beq (Nat.land k 1) 1)) (.node .leaf x .leaf) (Nat.beq k 1) := rfl
  rw [h, oif_eq, oif_eq]
  have e : Nat.land k 1 = k % 2 := Nat.and_one_is_mod k
  rw [e]
  simp only [nbeq]
  rfl
theorem tr_put_node (n k : Nat) (l r : Tr α) (v x : Option α) : (Tr.node l v r).put (n + 1) k x = if k = 1 then .node l x r else if k % 2 = 1 then .node l v (r.put n (k / 2) x) else .node (l.put n (k / 2) x) v r := by
  have h : (Tr.node l v r).put (n + 1) k x = Bool.rec (motive := fun _ => Tr α) (Bool.rec (motive := fun _ => Tr α) (.node (l.put n (Nat.div k 2) x) v r) (.node l v (r.put n (Nat.div k 2) x)) (Nat.beq (Nat.land k 1) 1)) (.node l x r) (Nat.beq k 1) := rfl
  rw [h, oif_eq, oif_eq]
  have e : Nat.land k 1 = k % 2 := Nat.and_one_is_mod k
  rw [e]
  simp only [nbeq]
  rfl
theorem tr_get_zero (t : Tr α) : t.get 0 = none := by
  induction t with
  | leaf => rfl
  | node l v r ihl ihr => rw [tr_get_node]; simpa using ihl
theorem tr_get_put_same (x : Option α) : ∀ (n : Nat) (t : Tr α) (k : Nat), 1 ≤ k → k < 2 ^ n → (t.put n k x).get k = x
  | 0, t, k, h1, h2 => by simp at h2; omega
  | n + 1, t, k, h1, h2 => by
    have hk : k / 2 < 2 ^ n := by rw [Nat.pow_succ] at h2; omega
    cases t with
    | leaf =>
      rw [tr_put_leaf]
      split
      · rename_i h; rw [tr_get_node, if_pos h]
      · rename_i h
        have := tr_get_put_same x n .leaf (k / 2) (by omega) hk
        split
        · rename_i h3; rw [tr_get_node, if_neg h, if_pos h3, this]
        · rename_i h3; rw [tr_get_node, if_neg h, if_neg h3, this]
    | node l v r =>
      rw [tr_put_node]
      split
      · rename_i h; rw [tr_get_node, if_pos h]
      · rename_i h
        split
        · rename_i h3; rw [tr_get_node, if_neg h, if_pos h3, tr_get_put_same x n r (k / 2) (by omega) hk]
        · rename_i h3; rw [tr_get_node, if_neg h, if_neg h3, tr_get_put_same x n l (k / 2) (by omega) hk]
theorem tr_get_put_ne (x : Option α) : ∀ (n : Nat) (t : Tr α) (k j : Nat), 1 ≤ k → k < 2 ^ n → j ≠ k → (t.put n k x).get j = t.get j
  | 0, t, k, j, h1, h2, _ => by simp at h2; omega
  | n + 1, t, k, j, h1, h2, hj => by
    rcases Nat.eq_zero_or_pos j with h0 | h0
    · subst h0; rw [tr_get_zero, tr_get_zero]
    have hk : k / 2 < 2 ^ n := by rw [Nat.pow_succ] at h2; omega
    cases t with
    | leaf =>
      rw [tr_put_leaf, tr_get_leaf]
      split
      · rename_i h; rw [tr_get_node, if_neg (show ¬ j = 1 by omega)]; split <;> rfl
      · rename_i h
        split
        · rename_i h3
          rw [tr_get_node]
          split
          · rfl
          split
          · rw [tr_get_put_ne x n .leaf (k / 2) (j / 2) (by omega) hk (by omega)]; rfl
          · rfl
        · rename_i h3
          rw [tr_get_node]
          split
          · rfl
          split
          · rfl
          · rw [tr_get_put_ne x n .leaf (k / 2) (j / 2) (by omega) hk (by omega)]; rfl
    | node l v r =>
      rw [tr_put_node]
      split
      · rename_i h; rw [tr_get_node, tr_get_node, if_neg (show ¬ j = 1 by omega), if_neg (show ¬ j = 1 by omega)]
      · rename_i h
        split
        · rename_i h3
          rw [tr_get_node, tr_get_node]
          split
          · rfl
          split
          · rw [tr_get_put_ne x n r (k / 2) (j / 2) (by omega) hk (by omega)]
          · rfl
        · rename_i h3
          rw [tr_get_node, tr_get_node]
          split
          · rfl
          split
          · rfl
          · rw [tr_get_put_ne x n l (k / 2) (j / 2) (by omega) hk (by omega)]
end
end Go.Proofs.YtmaaalpegnhjcaaDoor.Ev
