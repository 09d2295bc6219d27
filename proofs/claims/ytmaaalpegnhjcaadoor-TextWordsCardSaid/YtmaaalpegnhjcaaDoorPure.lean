/- The interpreter's operations on values against the model's. No program in sight. -/
import Derived.Test.YtmaaalpegnhjcaaDoorRel
namespace Go.Proofs.YtmaaalpegnhjcaaDoor.Ev
open Go
set_option linter.unusedVariables false
set_option linter.unusedSimpArgs false

/-! ### types -/
def aggB : TypeDesc → Bool
  | .struct _ => true
  | .array _ _ => true
  | _ => false
def kindOk (P : Program) (d : TypeDesc) : TK → Prop
  | .int k => d = .int k
  | .bool => d = .bool
  | .slice e => d = .slice e
  | .array n e => d = .array n e
  | .struct fs => ∃ fields : Array Field, d = .struct fields ∧ fs = fields.toList.map (fun f => (f.offset, f.type)) ∧ ∀ f ∈ fields.toList, ∃ i, P.info? f.type = some i
  | .map k e => d = .map k e
  | .ptr e => d = .pointer e
  | .str => d = .string
  | .ifc => ∃ ms, d = .interface ms
  | .other => True
/-- what a struct is made of: numbers, and bools -/
def sigFields (P : Program) (g : TypeId → Option (List Bool)) : List Field → Nat → Option (List Bool)
  | [], _ => some []
  | f :: r, off => if f.name = "_" then none else if f.offset ≠ off then none else match g f.type, P.info? f.type with
    | some s, some i => if i.size = s.length ∧ s.length ≠ 0 then (match sigFields P g r (off + s.length) with
      | some l => some (s ++ l)
      | none => none) else none
    | _, _ => none
def eqSig (P : Program) : Nat → TypeId → Option (List Bool)
  | 0, _ => none
  | d + 1, t => match P.underlying t with
    | some .bool => some [true]
    | some (.int _) => some [false]
    | some (.struct fs) => if P.stoodInHeld t then none else sigFields P (eqSig P d) fs.toList 0
    | some (.array n e) => if eqSig P d e = some [false] ∧ (P.info? e).map (fun i => i.size) = some 1 then some (List.replicate n false) else none
    | _ => none
def isAggV : Value → Bool
  | .agg _ => true
  | _ => false
structure TIok (P : Program) (t : TypeId) (ti : TI) : Prop where
  ex : ∃ i z d, P.info? t = some i ∧ i.zero = some z ∧ i.size = ti.size ∧ i.bytes = ti.bytes ∧ (∀ A φ, All2 (cS A φ) ti.zero z.cells.toList) ∧ P.underlying t = some d ∧ ti.agg = aggB d ∧ kindOk P d ti.kind ∧ ti.zero.length = ti.size
  eq : ∀ sig, ti.eq = some sig → eqSig P 10000 t = some sig ∧ P.eqGuardType P.depth t = false
  shape : ∀ i z, P.info? t = some i → i.zero = some z → isAggV z = ti.agg
def Tys (P : Program) (T : Tr TI) : Prop := ∀ t ti, oget T t = some ti → TIok P t ti
section
variable {P : Program} {w : World} {t : TypeId} {ti : TI}
theorem TIok.run_size (k : TIok P t ti) : (sizeOf t).run P w = .ok ti.size w := by
  obtain ⟨i, z, d, h1, h2, h3, _⟩ := k.ex
  simp [sizeOf, typeInfo, h1, h3]
theorem TIok.run_zero (k : TIok P t ti) : ∃ z, (zeroValue t).run P w = .ok z w ∧ (∀ A φ, All2 (cS A φ) ti.zero z.cells.toList) ∧ ti.zero.length = ti.size := by
  obtain ⟨i, z, d, h1, h2, h3, h4, h5, _, _, _, h6⟩ := k.ex
  exact ⟨z, by simp [zeroValue, typeInfo, h1, h2], h5, h6⟩
theorem TIok.run_agg (k : TIok P t ti) : (isAgg t).run P w = .ok ti.agg w := by
  obtain ⟨i, z, d, h1, h2, h3, h4, h5, h6, h7, _⟩ := k.ex
  simp only [isAgg, Sem.run_bind, run_underlying h6, Result.andThen_ok, h7]
  cases d <;> rfl
theorem TIok.und (k : TIok P t ti) : ∃ d, P.underlying t = some d ∧ kindOk P d ti.kind := by
  obtain ⟨i, z, d, _, _, _, _, _, h6, _, h7, _⟩ := k.ex
  exact ⟨d, h6, h7⟩
theorem sliceOf_some {T : Tr TI} (hT : Tys P T) {x : TypeId × TI} (h : sliceOf T t = some x) : P.underlying t = some (.slice x.1) ∧ TIok P x.1 x.2 ∧ x.2.size ≠ 0 := by
  unfold sliceOf at h
  split at h
  · rename_i ti hti
    split at h
    · rename_i e he
      split at h
      · rename_i z hz
        cases hb : Nat.beq z.size 0 with
        | true => rw [hb] at h; cases h
        | false =>
          rw [hb] at h
          cases h
          obtain ⟨d, h1, h2⟩ := (hT t ti hti).und
          rw [he] at h2
          exact ⟨h1.trans (congrArg some h2), hT _ _ hz, fun e => by simp at e; rw [e] at hb; cases hb⟩
      · cases h
    · cases h
  · cases h
theorem arrayOf_some {T : Tr TI} (hT : Tys P T) {x : Nat × TI} (h : arrayOf T t = some x) : ∃ e, P.underlying t = some (.array x.1 e) ∧ TIok P e x.2 ∧ x.2.size ≠ 0 := by
  unfold arrayOf at h
  split at h
  · rename_i ti hti
    split at h
    · rename_i n e he
      split at h
      · rename_i z hz
        cases hb : Nat.beq z.size 0 with
        | true => rw [hb] at h; cases h
        | false =>
          rw [hb] at h
          cases h
          obtain ⟨d, h1, h2⟩ := (hT t ti hti).und
          rw [he] at h2
          exact ⟨e, h1.trans (congrArg some h2), hT _ _ hz, fun e => by simp at e; rw [e] at hb; cases hb⟩
      · cases h
    · cases h
  · cases h
theorem isStrT_some {T : Tr TI} (hT : Tys P T) (h : isStrT T t = true) : P.underlying t = some .string := by
  unfold isStrT at h
  split at h
  · rename_i ti hti
    split at h
    · rename_i he
      obtain ⟨d, h1, h2⟩ := (hT t ti hti).und
      rw [he] at h2
      exact h1.trans (congrArg some h2)
    · cases h
  · cases h
theorem structOf_some {T : Tr TI} (hT : Tys P T) {f : Nat} {x : Nat × TI} (h : structOf T t f = some x) : ∃ fields : Array Field, ∃ fd : Field, P.underlying t = some (.struct fields) ∧ fields[f]? = some fd ∧ fd.offset = x.1 ∧ TIok P fd.type x.2 ∧ x.2.size ≠ 0 := by
  unfold structOf at h
  split at h
  · rename_i ti hti
    split at h
    · rename_i fs he
      split at h
      · rename_i p hp
        split at h
        · rename_i z hz
          cases hb : Nat.beq z.size 0 with
          | true => rw [hb] at h; cases h
          | false =>
            rw [hb] at h
            cases h
            obtain ⟨d, h1, h2⟩ := (hT t ti hti).und
            rw [he] at h2
            obtain ⟨fields, rfl, rfl, _⟩ := h2
            rw [List.getElem?_map] at hp
            obtain ⟨fd, hfd, rfl⟩ := Option.map_eq_some_iff.1 hp
            exact ⟨fields, fd, h1, by simpa using hfd, rfl, hT _ _ hz, fun e => by simp at e; rw [e] at hb; cases hb⟩
        · cases h
      · cases h
    · cases h
  · cases h
end

/-! ### taking values apart -/
section
variable {β : Type} {A : Nat → Int} {φ : Phi}
theorem svc_some {e : Option β} {x : AV} {f : SV → Option β} {r : β} (h : svc e x f = some r) : (∃ s, x = .s s ∧ f s = some r) ∨ (x = .undef ∧ e = some r) := by
  cases x with
  | s x => exact .inl ⟨x, rfl, h⟩
  | undef => exact .inr ⟨rfl, h⟩
  | _ => cases h
theorem svcN_some {x : AV} {f : SV → Option β} {r : β} (h : svc none x f = some r) : ∃ s, x = .s s ∧ f s = some r :=
  (svc_some h).elim id (fun h => by cases h.2)
theorem vInt_some {v : SV} {f : IntKind → Int → Option β} {r : β} (h : vInt v f = some r) : ∃ k n, v = .int k n ∧ f k n = some r := by
  cases v with
  | int k n => exact ⟨k, n, rfl, h⟩
  | _ => cases h
theorem sInt_some {x : AV} {f : IntKind → Int → Option β} {r : β} (h : sInt x f = some r) : ∃ k n, x = .s (.int k n) ∧ f k n = some r := by
  obtain ⟨s, rfl, h⟩ := svcN_some h
  obtain ⟨k, n, rfl, h⟩ := vInt_some h
  exact ⟨k, n, rfl, h⟩
theorem vBool_some {v : SV} {f : Bool → Option β} {r : β} (h : vBool v f = some r) : ∃ b, v = .bool b ∧ f b = some r := by
  cases v with
  | bool b => exact ⟨b, rfl, h⟩
  | _ => cases h
theorem sBool_some {x : AV} {f : Bool → Option β} {r : β} (h : sBool x f = some r) : ∃ b, x = .s (.bool b) ∧ f b = some r := by
  obtain ⟨s, rfl, h⟩ := svcN_some h
  obtain ⟨b, rfl, h⟩ := vBool_some h
  exact ⟨b, rfl, h⟩
theorem sPtr_some {x : AV} {f : Nat → Nat → Option β} {r : β} (h : sPtr x f = some r) : ∃ b o, x = .s (.ptr b o) ∧ f b o = some r := by
  obtain ⟨s, rfl, h⟩ := svcN_some h
  cases s with
  | ptr b o => exact ⟨b, o, rfl, h⟩
  | _ => cases h
theorem sSlice_some {x : AV} {e : Option β} {f : Nat → Nat → Nat → Nat → Bool → Nat → Option β} {r : β} (h : sSlice x e f = some r) : (x = .s .nilSlice ∧ e = some r) ∨ ∃ b o n m ex sz, x = .s (.slice b o n m ex sz) ∧ f b o n m ex sz = some r := by
  obtain ⟨s, rfl, h⟩ := svcN_some h
  cases s with
  | slice b o n m ex sz => exact .inr ⟨b, o, n, m, ex, sz, rfl, h⟩
  | nilSlice => exact .inl ⟨rfl, h⟩
  | _ => cases h
theorem sPtrC_some {x : AV} {f : Nat → Nat → Option β} {g : List SV → Option β} {r : β} (h : sPtrC x f g = some r) : (∃ b o, x = .s (.ptr b o) ∧ f b o = some r) ∨ ∃ cs, x = .s (.cp cs) ∧ g cs = some r := by
  obtain ⟨s, rfl, h⟩ := svcN_some h
  cases s with
  | ptr b o => exact .inl ⟨b, o, rfl, h⟩
  | cp cs => exact .inr ⟨cs, rfl, h⟩
  | _ => cases h
theorem sSliceC_some {x : AV} {e : Option β} {f : Nat → Nat → Nat → Nat → Bool → Nat → Option β} {g : List (List SV) → Option β} {z : Option β} {r : β} (h : sSliceC x e f g z = some r) :
    (x = .s .nilSlice ∧ e = some r) ∨ (∃ b o n m ex sz, x = .s (.slice b o n m ex sz) ∧ f b o n m ex sz = some r) ∨ (∃ rows, x = .s (.lst rows) ∧ g rows = some r) ∨ (x = .s .emp ∧ z = some r) := by
  obtain ⟨s, rfl, h⟩ := svcN_some h
  cases s with
  | slice b o n m ex sz => exact .inr (.inl ⟨b, o, n, m, ex, sz, rfl, h⟩)
  | nilSlice => exact .inl ⟨rfl, h⟩
  | lst rows => exact .inr (.inr (.inl ⟨rows, rfl, h⟩))
  | emp => exact .inr (.inr (.inr ⟨rfl, h⟩))
  | _ => cases h
/-- a slice that stays -/
theorem lst_view {A : Nat → Int} {k : Nat → Option (Array Value)} {rows : List (List SV)} {v : Value} (h : cD A k (.lst rows) v) :
    ∃ ad cap, v = .slice (some ad) rows.length cap ∧ rows.length ≤ cap ∧ (rows = [] ∨ ∃ b o sz cs, k b = some cs ∧ ad = ⟨b, o, none⟩ ∧ (∀ (i : Nat) (row : List SV), rows[i]? = some row → row.length = sz) ∧
      ∀ (i j : Nat) (row : List SV) (x : SV), rows[i]? = some row → row[j]? = some x → ∃ u, cs[o + i * sz + j]? = some u ∧ cD A k x u) := by
  cases h with
  | lst0 ad cap => exact ⟨ad, cap, rfl, Nat.zero_le _, .inl rfl⟩
  | lst _ b o cap sz cs g h1 h2 h3 h4 h5 => exact ⟨_, cap, rfl, h2, .inr ⟨b, o, sz, cs, h1, rfl, h3, fun i j row x hr hx => ⟨_, h4 i j row x hr hx, h5 i j row x hr hx⟩⟩⟩
/-- a part of a slice that stays -/
theorem lst_part {A : Nat → Int} {k : Nat → Option (Array Value)} {rows : List (List SV)} {b o sz cap lo n : Nat} {cs : Array Value} (h1 : k b = some cs) (h2 : rows.length ≤ cap) (h3 : ∀ (i : Nat) (row : List SV), rows[i]? = some row → row.length = sz)
    (h4 : ∀ (i j : Nat) (row : List SV) (x : SV), rows[i]? = some row → row[j]? = some x → ∃ u, cs[o + i * sz + j]? = some u ∧ cD A k x u) (h5 : lo + n ≤ rows.length) :
    cD A k (.lst ((rows.drop lo).take n)) (.slice (some ⟨b, o + lo * sz, none⟩) n (cap - lo)) := by
  have hl : ((rows.drop lo).take n).length = n := by simp; omega
  have hg : ∀ (i : Nat) (row : List SV), ((rows.drop lo).take n)[i]? = some row → rows[lo + i]? = some row := fun i row h => by
    rw [List.getElem?_take] at h
    split at h
    · rwa [List.getElem?_drop] at h
    · cases h
  have key : ∀ (i j : Nat), ∃ u, ∀ (row : List SV) (x : SV), rows[lo + i]? = some row → row[j]? = some x → cs[o + (lo + i) * sz + j]? = some u ∧ cD A k x u := fun i j => by
    cases hr : rows[lo + i]? with
    | none => exact ⟨undef, fun _ _ h => by cases h⟩
    | some row =>
      cases hx : row[j]? with
      | none => exact ⟨undef, fun row' x h h' => by cases h; rw [hx] at h'; cases h'⟩
      | some x =>
        obtain ⟨u, a, b⟩ := h4 _ _ _ _ hr hx
        exact ⟨u, fun row' x' h h' => by cases h; rw [hx] at h'; cases h'; exact ⟨a, b⟩⟩
  have e : ∀ i j, o + lo * sz + i * sz + j = o + (lo + i) * sz + j := fun i j => by rw [Nat.add_mul]; omega
  rw [show (Value.slice (some ⟨b, o + lo * sz, none⟩) n (cap - lo)) = .slice (some ⟨b, o + lo * sz, none⟩) ((rows.drop lo).take n).length (cap - lo) by rw [hl]]
  refine .lst _ b (o + lo * sz) (cap - lo) sz cs (fun i j => Classical.choose (key i j)) h1 (by rw [hl]; omega) (fun i row h => h3 _ _ (hg i row h)) (fun i j row x hr hx => ?_) (fun i j row x hr hx => ?_)
  · rw [e]; exact (Classical.choose_spec (key i j) row x (hg i row hr) hx).1
  · exact (Classical.choose_spec (key i j) row x (hg i row hr) hx).2
theorem sMap_some {x : AV} {e : Option β} {f : Nat → Option β} {r : β} (h : sMap x e f = some r) : (x = .s .nilMap ∧ e = some r) ∨ ∃ b, x = .s (.map b) ∧ f b = some r := by
  obtain ⟨s, rfl, h⟩ := svcN_some h
  cases s with
  | map b => exact .inr ⟨b, rfl, h⟩
  | nilMap => exact .inl ⟨rfl, h⟩
  | _ => cases h
theorem sFunc_some {x : AV} {f : FuncId → List (Nat × Nat) → Option β} {r : β} (h : sFunc x f = some r) : ∃ g cs, x = .s (.func g cs) ∧ f g cs = some r := by
  obtain ⟨s, rfl, h⟩ := svcN_some h
  cases s with
  | func g cs => exact ⟨g, cs, rfl, h⟩
  | _ => cases h
theorem below_some {x : AV} {n : Nat} {f : Nat → Option β} {r : β} (h : below x n f = some r) : ∃ k, ∃ m : Nat, x = .s (.int k m) ∧ m < n ∧ f m = some r := by
  obtain ⟨k, i, rfl, h⟩ := sInt_some h
  cases i with
  | ofNat m =>
    obtain ⟨h1, h2⟩ := oif_some.1 h
    exact ⟨k, m, rfl, Nat.le_of_ble_eq_true h1, h2⟩
  | negSucc m => cases h
theorem inat_some {x : AV} {f : Nat → Option β} {r : β} (h : inat x f = some r) : ∃ m : Nat, x = .s (.int .i64 m) ∧ f m = some r := by
  obtain ⟨k, i, rfl, h⟩ := sInt_some h
  obtain ⟨h1, h2⟩ := oif_some.1 h
  cases i with
  | ofNat m => exact ⟨m, by rw [isI64_iff h1] <;> rfl, h2⟩
  | negSucc m => cases h2
theorem vSx_some {v : SV} {f : Sx → Option β} {r : β} (h : vSx v f = some r) : ∃ e, (∀ A φ x, cS A φ v x → x = .int .i64 (den A e)) ∧ f e = some r := by
  cases v with
  | int k n =>
    obtain ⟨h1, h2⟩ := oif_some.1 h
    exact ⟨_, fun A φ x hx => by rw [isI64_iff h1] at hx; exact hx, h2⟩
  | sym e => exact ⟨e, fun A φ x hx => hx, h⟩
  | _ => cases h
theorem sxLit_some {e : Sx} {f : Int → Option β} {r : β} (h : sxLit e f = some r) : ∃ n, e = .lit n ∧ f n = some r := by
  cases e with
  | lit n => exact ⟨n, rfl, h⟩
  | _ => cases h
end

/-! ### numbers -/
section
variable {P : Program} {w : World} {A : Nat → Int} {φ : Phi}
def cBO : BO → BinOp
  | .add => .add | .sub => .sub | .mul => .mul | .quo => .quo | .rem => .rem | .eq => .eql | .ne => .neq | .lt => .lss | .le => .leq | .gt => .gtr | .ge => .geq
  | .and => .and | .or => .or | .andNot => .andNot | .shl => .shl | .shr => .shr
theorem cBin_some {op : BinOp} {o : BO} (h : cBin op = some o) : op = cBO o := by
  cases op <;> simp [cBin] at h <;> subst h <;> rfl
theorem numS_some {k : IntKind} {n : Int} {v : AV} (h : numS k n = some v) : v = .s (.int k n) ∧ k.wrap n = n := by
  obtain ⟨h1, h2⟩ := oif_some.1 h
  exact ⟨(Option.some.inj h2).symm, inR_wrap h1⟩
theorem numW_some {k : IntKind} {n : Int} {v : AV} (h : numW k n = some v) : v = .s (.int k (k.wrap n)) := by
  have h' : oif (inR k n) (some (AV.s (.int k n))) (oif (isI64 k) (some (.s (.int k (IntKind.wrap .i64 n)))) none) = some v := h
  rw [oif_if] at h'
  split at h'
  · rename_i h1; cases h'; rw [inR_wrap h1]
  · obtain ⟨h1, h2⟩ := oif_some.1 h'
    cases h2
    rw [isI64_iff h1]
theorem nn2_some {a b : Int} {f : Nat → Nat → Option AV} {v : AV} (h : nn2 a b f = some v) : ∃ m n : Nat, a = m ∧ b = n ∧ f m n = some v := by
  cases a with
  | ofNat m => cases b with
    | ofNat n => exact ⟨m, n, rfl, rfl, h⟩
    | negSucc n => cases h
  | negSucc m => cases h
theorem nn3_some {a b : Int} {f g : Nat → Nat → Option AV} {v : AV} (h : nn3 a b f g = some v) : ∃ m n : Nat, b = n ∧ ((a = m ∧ f m n = some v) ∨ (a = Int.negSucc m ∧ g m n = some v)) := by
  cases a with
  | ofNat m => cases b with
    | ofNat n => exact ⟨m, n, rfl, .inl ⟨rfl, h⟩⟩
    | negSucc n => cases h
  | negSucc m => cases b with
    | ofNat n => exact ⟨m, n, rfl, .inr ⟨rfl, h⟩⟩
    | negSucc n => cases h
theorem inR_negSucc {m : Nat} (h : inR .i64 (Int.negSucc m) = true) : m < 9223372036854775808 := by
  rcases inR_bounds h with ⟨_, a, b⟩ | ⟨e, _⟩ | ⟨e, _⟩
  · omega
  · cases e
  · cases e
theorem bv_neg {m : Nat} : BitVec.ofInt 64 (Int.negSucc m) = ~~~ BitVec.ofNat 64 m := by
  apply BitVec.eq_of_toInt_eq
  rw [BitVec.toInt_ofInt, BitVec.toInt_not, BitVec.toNat_ofNat]
  have h : (2 : Int) ^ 64 = 18446744073709551616 := by decide
  have h2 : (2 : Nat) ^ 64 = 18446744073709551616 := by decide
  rw [h, h2, Int.bmod_def, Int.bmod_def]
  split <;> split <;> omega
theorem inR_nat {k : IntKind} {m : Nat} (h : inR k (.ofNat m) = true) : m < 2 ^ k.bits ∧ (BitVec.ofInt k.bits (m : Int)).toNat = m ∧ (∀ l : Nat, l ≤ m → k.wrap l = l) := by
  rcases inR_bounds h with ⟨rfl, h1, h2⟩ | ⟨rfl, h1, h2⟩ | ⟨rfl, h1, h2⟩ <;>
    (refine ⟨by simp [IntKind.bits] at *; omega, by simp [IntKind.bits, BitVec.toNat_ofInt] at *; omega, fun l hl => ?_⟩; simp [IntKind.wrap, IntKind.bits, IntKind.signed] at *; omega)
theorem shOk_min {k : IntKind} {n : Nat} (h : shOk k n = true) : min n k.bits = n := by
  unfold shOk at h
  simp only [oif_if] at h
  split at h
  · rename_i h1; have := Nat.le_of_ble_eq_true h1; cases k <;> simp [IntKind.bits] <;> omega
  · split at h
    · rename_i h2
      have := Nat.le_of_ble_eq_true h2
      split at h
      · rename_i h3; rw [isI64_iff h3]; simp [IntKind.bits]; omega
      · rw [isU64_iff h]; simp [IntKind.bits]; omega
    · cases h
theorem bv_andNot {n : Nat} (x y : BitVec n) : (x &&& ~~~y).toNat = x.toNat ^^^ (x.toNat &&& y.toNat) := by
  have : x &&& ~~~y = x ^^^ (x &&& y) := by
    apply BitVec.eq_of_getLsbD_eq
    intro i hi
    simp only [BitVec.getLsbD_and, BitVec.getLsbD_not, BitVec.getLsbD_xor, hi, decide_true, Bool.true_and]
    cases x.getLsbD i <;> cases y.getLsbD i <;> rfl
  rw [this, BitVec.toNat_xor, BitVec.toNat_and]
theorem inR_or {k : IntKind} {m n : Nat} (h1 : inR k (.ofNat m) = true) (h2 : inR k (.ofNat n) = true) : k.wrap ((m ||| n : Nat) : Int) = ((m ||| n : Nat) : Int) := by
  rcases inR_bounds h1 with ⟨rfl, a1, a2⟩ | ⟨rfl, a1, a2⟩ | ⟨rfl, a1, a2⟩ <;>
  rcases inR_bounds h2 with ⟨e, b1, b2⟩ | ⟨e, b1, b2⟩ | ⟨e, b1, b2⟩ <;> first | (cases e; done) | skip
  · have := Nat.or_lt_two_pow (x := m) (y := n) (n := 63) (by simp at *; omega) (by simp at *; omega)
    simp [IntKind.wrap, IntKind.bits, IntKind.signed] at *; omega
  · have := Nat.or_lt_two_pow (x := m) (y := n) (n := 8) (by simp at *; omega) (by simp at *; omega)
    simp [IntKind.wrap, IntKind.bits, IntKind.signed] at *; omega
  · have := Nat.or_lt_two_pow (x := m) (y := n) (n := 64) (by simp at *; omega) (by simp at *; omega)
    simp [IntKind.wrap, IntKind.bits, IntKind.signed] at *; omega
theorem binop_sound {o : BO} {k k' : IntKind} {a b : Int} {v : AV} (h : binop o k a b = some v) (hk : k = k' ∨ shk o = true) (t : TypeId) :
    ∃ rv, (Go.binOp (cBO o) t (.int k a) (.int k' b)).run P w = .ok rv w ∧ cV A φ v rv := by
  cases o
  case add => obtain rfl := hk.resolve_right (by intro h; cases h); obtain rfl := numW_some (show numW k (iadd a b) = some v from h); exact ⟨_, by simp [Go.binOp, cBO, Op.intArith] <;> rfl, by rw [iadd_eq]; rfl⟩
  case sub => obtain rfl := hk.resolve_right (by intro h; cases h); obtain rfl := numW_some (show numW k (a - b) = some v from h); exact ⟨_, by simp [Go.binOp, cBO, Op.intArith] <;> rfl, rfl⟩
  case mul => obtain rfl := hk.resolve_right (by intro h; cases h); obtain rfl := numW_some (show numW k (a * b) = some v from h); exact ⟨_, by simp [Go.binOp, cBO, Op.intArith] <;> rfl, rfl⟩
  case quo =>
    obtain rfl := hk.resolve_right (by intro h; cases h)
    have h' : oif (ieq b 0) none (numS k (a.tdiv b)) = some v := h
    rw [oif_if] at h'
    split at h'
    · cases h'
    · rename_i h0
      rw [ieq_iff] at h0
      have hb : ¬ b = 0 := by simpa using h0
      obtain ⟨rfl, e⟩ := numS_some h'
      exact ⟨_, by simp [Go.binOp, cBO, Op.intDiv, hb, e] <;> rfl, rfl⟩
  case rem =>
    obtain rfl := hk.resolve_right (by intro h; cases h)
    have h' : oif (ieq b 0) none (numS k (a.tmod b)) = some v := h
    rw [oif_if] at h'
    split at h'
    · cases h'
    · rename_i h0
      rw [ieq_iff] at h0
      have hb : ¬ b = 0 := by simpa using h0
      obtain ⟨rfl, e⟩ := numS_some h'
      exact ⟨_, by simp [Go.binOp, cBO, Op.intDiv, hb] <;> rfl, rfl⟩
  case eq => obtain rfl := hk.resolve_right (by intro h; cases h); cases (show some (AV.s (.bool (ieq a b))) = some v from h); exact ⟨_, by simp [Go.binOp, cBO, Op.intCmp] <;> rfl, by rw [ieq_iff]; first | rfl | exact congrArg _ (by rw [Bool.eq_iff_iff]; simp)⟩
  case ne => obtain rfl := hk.resolve_right (by intro h; cases h); cases (show some (AV.s (.bool (bnot (ieq a b)))) = some v from h); exact ⟨_, by simp [Go.binOp, cBO, Op.intCmp] <;> rfl, by rw [ieq_iff, bnot_eq]; exact congrArg _ (by rw [Bool.eq_iff_iff]; simp)⟩
  case lt => obtain rfl := hk.resolve_right (by intro h; cases h); cases (show some (AV.s (.bool (bnot (ile b a)))) = some v from h); exact ⟨_, by simp [Go.binOp, cBO, Op.intCmp] <;> rfl, by rw [ile_iff, bnot_eq]; exact congrArg _ (by rw [Bool.eq_iff_iff]; simp)⟩
  case le => obtain rfl := hk.resolve_right (by intro h; cases h); cases (show some (AV.s (.bool (ile a b))) = some v from h); exact ⟨_, by simp [Go.binOp, cBO, Op.intCmp] <;> rfl, by rw [ile_iff]; first | rfl | exact congrArg _ (by rw [Bool.eq_iff_iff]; simp)⟩
  case gt => obtain rfl := hk.resolve_right (by intro h; cases h); cases (show some (AV.s (.bool (bnot (ile a b)))) = some v from h); exact ⟨_, by simp [Go.binOp, cBO, Op.intCmp] <;> rfl, by rw [ile_iff, bnot_eq]; exact congrArg _ (by rw [Bool.eq_iff_iff]; simp)⟩
  case ge => obtain rfl := hk.resolve_right (by intro h; cases h); cases (show some (AV.s (.bool (ile b a))) = some v from h); exact ⟨_, by simp [Go.binOp, cBO, Op.intCmp] <;> rfl, by rw [ile_iff]; first | rfl | exact congrArg _ (by rw [Bool.eq_iff_iff]; simp)⟩
  case and =>
    obtain rfl := hk.resolve_right (by intro h; cases h)
    obtain ⟨m, n, rfl, ⟨rfl, h⟩ | ⟨rfl, h⟩⟩ := nn3_some h
    · obtain ⟨h1, h⟩ := oif_some.1 h
      obtain ⟨h2, h⟩ := oif_some.1 h
      cases h
      obtain ⟨a1, a2, a3⟩ := inR_nat h1
      obtain ⟨b1, b2, b3⟩ := inR_nat h2
      refine ⟨.int k ((m &&& n : Nat) : Int), ?_, rfl⟩
      simp only [Go.binOp, cBO, Op.intBits, ne_eq, not_true_eq_false, if_false, Sem.run_pure, BitVec.toNat_and, a2, b2]
      rw [a3 _ Nat.and_le_left]
    · obtain ⟨h0, h⟩ := oif_some.1 h
      obtain ⟨h1, h⟩ := oif_some.1 h
      obtain ⟨h2, h⟩ := oif_some.1 h
      cases h
      obtain rfl := isI64_iff h0
      obtain ⟨b1, b2, b3⟩ := inR_nat h2
      have hm : m < 2 ^ 64 := by have := inR_negSucc h1; omega
      have e1 : (BitVec.ofInt 64 (Int.negSucc m) &&& BitVec.ofInt 64 (n : Int)).toNat = n ^^^ (n &&& m) := by
        rw [bv_neg, BitVec.and_comm, bv_andNot, BitVec.toNat_ofNat, Nat.mod_eq_of_lt hm]
        have b2' : (BitVec.ofInt 64 (n : Int)).toNat = n := b2
        rw [b2']
      refine ⟨.int .i64 ((n ^^^ (n &&& m) : Nat) : Int), ?_, rfl⟩
      have hle : n ^^^ (n &&& m) ≤ n := by
        have b2' : (BitVec.ofInt 64 (n : Int)).toNat = n := b2
        rw [← e1, BitVec.toNat_and, b2']; exact Nat.and_le_right
      simp only [Go.binOp, cBO, Op.intBits, ne_eq, not_true_eq_false, if_false, Sem.run_pure]
      rw [show IntKind.bits .i64 = 64 from rfl, e1, b3 _ hle]
  case or =>
    obtain rfl := hk.resolve_right (by intro h; cases h)
    obtain ⟨m, n, rfl, ⟨rfl, h⟩ | ⟨rfl, h⟩⟩ := nn3_some h
    · obtain ⟨h1, h⟩ := oif_some.1 h
      obtain ⟨h2, h⟩ := oif_some.1 h
      cases h
      obtain ⟨a1, a2, a3⟩ := inR_nat h1
      obtain ⟨b1, b2, b3⟩ := inR_nat h2
      refine ⟨.int k ((m ||| n : Nat) : Int), ?_, rfl⟩
      simp only [Go.binOp, cBO, Op.intBits, ne_eq, not_true_eq_false, if_false, Sem.run_pure, BitVec.toNat_or, a2, b2]
      rw [inR_or h1 h2]
    · obtain ⟨h0, h⟩ := oif_some.1 h
      obtain ⟨h1, h⟩ := oif_some.1 h
      obtain ⟨h2, h⟩ := oif_some.1 h
      cases h
      obtain rfl := isI64_iff h0
      obtain ⟨b1, b2, b3⟩ := inR_nat h2
      have hm : m < 2 ^ 63 := by have := inR_negSucc h1; omega
      have b2' : (BitVec.ofInt 64 (n : Int)).toNat = n := b2
      have hle : m ^^^ (m &&& n) ≤ m := by
        have e := bv_andNot (BitVec.ofNat 64 m) (BitVec.ofInt 64 (n : Int))
        rw [BitVec.toNat_ofNat, Nat.mod_eq_of_lt (by omega), b2'] at e
        rw [← e, BitVec.toNat_and, BitVec.toNat_ofNat, Nat.mod_eq_of_lt (by omega)]
        exact Nat.and_le_left
      have e1 : (BitVec.ofInt 64 (Int.negSucc m) ||| BitVec.ofInt 64 (n : Int)).toNat = 2 ^ 64 - 1 - (m ^^^ (m &&& n)) := by
        have e2 : BitVec.ofInt 64 (Int.negSucc m) ||| BitVec.ofInt 64 (n : Int) = ~~~ (BitVec.ofNat 64 m &&& ~~~ BitVec.ofInt 64 (n : Int)) := by
          rw [bv_neg]
          apply BitVec.eq_of_getLsbD_eq
          intro i hi
          simp only [BitVec.getLsbD_and, BitVec.getLsbD_not, BitVec.getLsbD_or, hi, decide_true, Bool.true_and]
          cases (BitVec.ofNat 64 m).getLsbD i <;> cases (BitVec.ofInt 64 (n : Int)).getLsbD i <;> rfl
        rw [e2, BitVec.toNat_not, bv_andNot, BitVec.toNat_ofNat, Nat.mod_eq_of_lt (by omega), b2']
      refine ⟨.int .i64 (Int.negSucc (m ^^^ (m &&& n))), ?_, rfl⟩
      simp only [Go.binOp, cBO, Op.intBits, ne_eq, not_true_eq_false, if_false, Sem.run_pure]
      rw [show IntKind.bits .i64 = 64 from rfl, e1]
      generalize m ^^^ (m &&& n) = q at hle
      have : IntKind.wrap .i64 ((2 ^ 64 - 1 - q : Nat) : Int) = Int.negSucc q := by
        simp only [IntKind.wrap, IntKind.bits, IntKind.signed]
        have h2 : (2 : Nat) ^ 64 = 18446744073709551616 := by decide
        have h3 : (2 : Nat) ^ 63 = 9223372036854775808 := by decide
        have : Int.negSucc q = -(q : Int) - 1 := by omega
        simp
        omega
      rw [this]
  case andNot =>
    obtain rfl := hk.resolve_right (by intro h; cases h)
    obtain ⟨m, n, rfl, rfl, h⟩ := nn2_some h
    obtain ⟨h1, h⟩ := oif_some.1 h
    obtain ⟨h2, h⟩ := oif_some.1 h
    cases h
    obtain ⟨a1, a2, a3⟩ := inR_nat h1
    obtain ⟨b1, b2, b3⟩ := inR_nat h2
    refine ⟨.int k ((m ^^^ (m &&& n) : Nat) : Int), ?_, rfl⟩
    simp only [Go.binOp, cBO, Op.intBits, ne_eq, not_true_eq_false, if_false, Sem.run_pure, bv_andNot, a2, b2]
    have e : m ^^^ (m &&& n) = (BitVec.ofInt k.bits (m : Int) &&& ~~~ BitVec.ofInt k.bits (n : Int)).toNat := by rw [bv_andNot, a2, b2]
    have hle : m ^^^ (m &&& n) ≤ m := by
      rw [e, BitVec.toNat_and, a2]; exact Nat.and_le_left
    rw [a3 _ hle]
  case shl =>
    obtain ⟨m, n, rfl, rfl, h⟩ := nn2_some h
    obtain ⟨h1, h⟩ := oif_some.1 h
    obtain ⟨rfl, e⟩ := numS_some h
    have hm := shOk_min h1
    refine ⟨_, ?_, rfl⟩
    have e' : k.wrap ((m : Int) * 2 ^ n) = Int.ofNat (Nat.mul m (Nat.pow 2 n)) := by
      have : ((m : Int) * 2 ^ n) = Int.ofNat (Nat.mul m (Nat.pow 2 n)) := by
        have : Int.ofNat (Nat.mul m (Nat.pow 2 n)) = ((m * 2 ^ n : Nat) : Int) := rfl
        rw [this, Int.natCast_mul, Int.natCast_pow]; rfl
      rw [this]; exact e
    have hn : ¬ ((n : Int) < 0) := by omega
    simp only [Go.binOp, cBO, Op.shift, hn, if_false, Int.toNat_natCast, hm, Sem.run_pure, e']
  case shr =>
    obtain ⟨m, n, rfl, ⟨rfl, h⟩ | ⟨rfl, h⟩⟩ := nn3_some h
    · obtain ⟨h1, h⟩ := oif_some.1 h
      cases h
      have hm := shOk_min h1
      refine ⟨_, ?_, rfl⟩
      have e' : (m : Int).fdiv (2 ^ n) = Int.ofNat (Nat.div m (Nat.pow 2 n)) := by
        rw [Int.fdiv_eq_ediv_of_nonneg _ (by exact Int.le_of_lt (Int.pow_pos (by decide)))]
        have : Int.ofNat (Nat.div m (Nat.pow 2 n)) = ((m / 2 ^ n : Nat) : Int) := rfl
        rw [this, Int.natCast_ediv, Int.natCast_pow]; rfl
      have hn : ¬ ((n : Int) < 0) := by omega
      simp only [Go.binOp, cBO, Op.shift, hn, if_false, Int.toNat_natCast, hm, Sem.run_pure, e']
    · obtain ⟨h1, h⟩ := oif_some.1 h
      cases h
      have hm := shOk_min h1
      refine ⟨_, ?_, rfl⟩
      have e' : (Int.negSucc m).fdiv (2 ^ n) = Int.negSucc (Nat.div m (Nat.pow 2 n)) := by
        obtain ⟨q, hq⟩ : ∃ q, 2 ^ n = q + 1 := ⟨2 ^ n - 1, by have := Nat.two_pow_pos n; omega⟩
        have h2 : (2 : Int) ^ n = ((q + 1 : Nat) : Int) := by rw [← hq, Int.natCast_pow]; rfl
        have h3 : Nat.pow 2 n = q + 1 := hq
        rw [h2, h3]; rfl
      have hn : ¬ ((n : Int) < 0) := by omega
      simp only [Go.binOp, cBO, Op.shift, hn, if_false, Int.toNat_natCast, hm, Sem.run_pure, e']
theorem rng_some {l h : Int} {p : Int × Int} (k : rng l h = some p) : p = (l, h) ∧ -9223372036854775808 ≤ l ∧ h ≤ 9223372036854775807 := by
  obtain ⟨h1, h2⟩ := oif_some.1 k
  obtain ⟨h3, h4⟩ := oif_some.1 h2
  cases h4
  rcases inR_bounds h1 with ⟨_, a, _⟩ | ⟨e, _⟩ | ⟨e, _⟩
  · rcases inR_bounds h3 with ⟨_, _, b⟩ | ⟨e, _⟩ | ⟨e, _⟩
    · exact ⟨rfl, a, b⟩
    · cases e
    · cases e
  · cases e
  · cases e
theorem itv_sound : ∀ (e : Sx) {p : Int × Int}, itv e = some p → p.1 ≤ den A e ∧ den A e ≤ p.2
  | .arg i, p, h => by cases h
  | .lit n, p, h => by
    cases (show some (n, n) = some p from h)
    exact ⟨Int.le_refl _, Int.le_refl _⟩
  | .bnd i m, p, h => by
    cases (show some (Int.ofNat 0, Int.ofNat m) = some p from h)
    simp only [den]
    split
    · rename_i h1; exact h1
    · exact ⟨Int.le_refl _, Int.natCast_nonneg m⟩
  | .op o a b, p, h => by
    cases o
    case add =>
      obtain ⟨p1, h1, h2⟩ := ob_some.1 (show ob (itv a) (fun p => ob (itv b) (fun q => rng (iadd p.1 q.1) (iadd p.2 q.2))) = some p from h)
      obtain ⟨p2, h3, h4⟩ := ob_some.1 h2
      obtain ⟨rfl, h5, h6⟩ := rng_some h4
      have ia := itv_sound a h1
      have ib := itv_sound b h3
      rw [iadd_eq] at h5 h6
      have e : IntKind.i64.wrap (den A a + den A b) = den A a + den A b := by
        simp [IntKind.wrap, IntKind.bits, IntKind.signed]; omega
      simp only [den, e, iadd_eq]
      omega
    case sub =>
      obtain ⟨p1, h1, h2⟩ := ob_some.1 (show ob (itv a) (fun p => ob (itv b) (fun q => rng (p.1 - q.2) (p.2 - q.1))) = some p from h)
      obtain ⟨p2, h3, h4⟩ := ob_some.1 h2
      obtain ⟨rfl, h5, h6⟩ := rng_some h4
      have ia := itv_sound a h1
      have ib := itv_sound b h3
      have e : IntKind.i64.wrap (den A a - den A b) = den A a - den A b := by
        simp [IntKind.wrap, IntKind.bits, IntKind.signed]; omega
      simp only [den, e]
      omega
    all_goals cases h
theorem itvLe_sound {a b : Sx} {t : Bool} (h : itvLe a b = some t) : t = decide (den A a ≤ den A b) := by
  obtain ⟨p, h1, h2⟩ := ob_some.1 h
  obtain ⟨q, h3, h4⟩ := ob_some.1 h2
  have ia := itv_sound (A := A) a h1
  have ib := itv_sound (A := A) b h3
  rw [oif_if, ile_iff] at h4
  split at h4
  · rename_i h5
    cases h4
    have h5' := of_decide_eq_true h5
    exact (decide_eq_true (by omega)).symm
  · rw [oif_if, ile_iff] at h4
    split at h4
    · cases h4
    · rename_i h6
      cases h4
      have h6' : ¬ p.1 ≤ q.2 := fun k => h6 (decide_eq_true k)
      exact (decide_eq_false (by omega)).symm
theorem apart_sound {a b : Sx} (h : apart a b = true) : den A a ≠ den A b := by
  intro e
  unfold apart at h
  have l1 : ∀ t, itvLe a b = some t → t = true := fun t k => by rw [itvLe_sound (A := A) k]; exact decide_eq_true (by omega)
  have l2 : ∀ t, itvLe b a = some t → t = true := fun t k => by rw [itvLe_sound (A := A) k]; exact decide_eq_true (by omega)
  cases h1 : itvLe a b with
  | none =>
    rw [h1] at h
    cases h2 : itvLe b a with
    | none => rw [h2] at h; cases h
    | some t => rw [h2, l2 t h2] at h; cases h
  | some t =>
    rw [h1, l1 t h1] at h
    cases h2 : itvLe b a with
    | none => rw [h2] at h; cases h
    | some t => rw [h2, l2 t h2] at h; cases h
theorem symop_sound {o : BO} {e e' : Sx} {v : AV} (h : symop o e e' = some v) (t : TypeId) :
    ∃ rv, (Go.binOp (cBO o) t (.int .i64 (den A e)) (.int .i64 (den A e'))).run P w = .ok rv w ∧ cV A φ v rv := by
  cases o
  case add => cases (show some (AV.s (.sym (.op .add e e'))) = some v from h); exact ⟨_, by simp [Go.binOp, cBO, Op.intArith] <;> rfl, rfl⟩
  case sub => cases (show some (AV.s (.sym (.op .sub e e'))) = some v from h); exact ⟨_, by simp [Go.binOp, cBO, Op.intArith] <;> rfl, rfl⟩
  case mul => cases (show some (AV.s (.sym (.op .mul e e'))) = some v from h); exact ⟨_, by simp [Go.binOp, cBO, Op.intArith] <;> rfl, rfl⟩
  case quo =>
    obtain ⟨n, rfl, h⟩ := sxLit_some h
    rw [oif_if] at h
    split at h
    · cases h
    · rename_i h0
      rw [ieq_iff] at h0
      have hb : ¬ n = 0 := by simpa using h0
      cases h
      exact ⟨_, by simp [Go.binOp, cBO, Op.intDiv, den, hb] <;> rfl, rfl⟩
  case rem =>
    obtain ⟨n, rfl, h⟩ := sxLit_some h
    rw [oif_if] at h
    split at h
    · cases h
    · rename_i h0
      rw [ieq_iff] at h0
      have hb : ¬ n = 0 := by simpa using h0
      cases h
      exact ⟨_, by simp [Go.binOp, cBO, Op.intDiv, den, hb] <;> rfl, rfl⟩
  case eq =>
    rw [show symop .eq e e' = oif (sxEq e e') (some (.s (.bool true))) (oif (apart e e') (some (.s (.bool false))) none) from rfl, oif_if] at h
    split at h
    · rename_i h1
      cases h
      rw [sxEq_sound _ _ h1]
      exact ⟨_, by simp [Go.binOp, cBO, Op.intCmp] <;> rfl, rfl⟩
    · obtain ⟨h1, h⟩ := oif_some.1 h
      cases h
      have h2 := apart_sound (A := A) h1
      exact ⟨.bool false, by simp [Go.binOp, cBO, Op.intCmp, h2], rfl⟩
  case ne =>
    rw [show symop .ne e e' = oif (sxEq e e') (some (.s (.bool false))) (oif (apart e e') (some (.s (.bool true))) none) from rfl, oif_if] at h
    split at h
    · rename_i h1
      cases h
      rw [sxEq_sound _ _ h1]
      exact ⟨_, by simp [Go.binOp, cBO, Op.intCmp] <;> rfl, rfl⟩
    · obtain ⟨h1, h⟩ := oif_some.1 h
      cases h
      have h2 := apart_sound (A := A) h1
      exact ⟨.bool true, by simp [Go.binOp, cBO, Op.intCmp, h2], rfl⟩
  case lt =>
    obtain ⟨t, h1, h2⟩ := ob_some.1 (show ob (itvLe e' e) (fun t => some (.s (.bool (bnot t)))) = some v from h)
    cases h2
    rw [itvLe_sound (A := A) h1, bnot_eq]
    refine ⟨.bool (decide (den A e < den A e')), by simp [Go.binOp, cBO, Op.intCmp], ?_⟩
    show Value.bool _ = .bool _
    congr 1
    rw [Bool.eq_iff_iff]
    simp
  case le =>
    obtain ⟨t, h1, h2⟩ := ob_some.1 (show ob (itvLe e e') (fun t => some (.s (.bool t))) = some v from h)
    cases h2
    rw [itvLe_sound (A := A) h1]
    exact ⟨.bool (decide (den A e ≤ den A e')), by simp [Go.binOp, cBO, Op.intCmp], rfl⟩
  case gt =>
    obtain ⟨t, h1, h2⟩ := ob_some.1 (show ob (itvLe e e') (fun t => some (.s (.bool (bnot t)))) = some v from h)
    cases h2
    rw [itvLe_sound (A := A) h1, bnot_eq]
    refine ⟨.bool (decide (den A e > den A e')), by simp [Go.binOp, cBO, Op.intCmp], ?_⟩
    show Value.bool _ = .bool _
    congr 1
    rw [Bool.eq_iff_iff]
    simp
  case ge =>
    obtain ⟨t, h1, h2⟩ := ob_some.1 (show ob (itvLe e' e) (fun t => some (.s (.bool t))) = some v from h)
    cases h2
    rw [itvLe_sound (A := A) h1]
    exact ⟨.bool (decide (den A e ≥ den A e')), by simp [Go.binOp, cBO, Op.intCmp], rfl⟩
  all_goals cases h
theorem binSV_sound {o : BO} {a b : SV} {v : AV} {x y : Value} (h : binSV o a b = some v) (hx : cS A φ a x) (hy : cS A φ b y) (t : TypeId) :
    ∃ rv, (Go.binOp (cBO o) t x y).run P w = .ok rv w ∧ cV A φ v rv := by
  cases a with
  | int k m =>
    cases (show x = .int k m from hx)
    cases b with
    | int k' n =>
      cases (show y = .int k' n from hy)
      have h' : oif (Nat.beq (ikn k) (ikn k')) (binop o k m n) (oif (shk o) (binop o k m n) none) = some v := h
      rw [oif_if] at h'
      split at h'
      · rename_i h1; exact binop_sound h' (.inl (ikn_inj h1)) t
      · obtain ⟨h1, h'⟩ := oif_some.1 h'; exact binop_sound h' (.inr h1) t
    | sym e =>
      cases (show y = .int .i64 (den A e) from hy)
      obtain ⟨h1, h'⟩ := oif_some.1 (show oif (isI64 k) (symop o (.lit m) e) none = some v from h)
      rw [isI64_iff h1]
      exact symop_sound h' t
    | _ => cases h
  | sym e =>
    cases (show x = .int .i64 (den A e) from hx)
    obtain ⟨e', h1, h2⟩ := vSx_some (show vSx b (fun e' => symop o e e') = some v from h)
    cases h1 _ _ _ hy
    exact symop_sound h2 t
  | _ => cases h
end
end Go.Proofs.YtmaaalpegnhjcaaDoor.Ev
