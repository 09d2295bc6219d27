/- A region that draws its order: what its preparation has looked at. No program in sight. -/
import Derived.Test.YtmaaalpegnhjcaaDoorAbs
import Derived.Orders
namespace Go.Proofs.YtmaaalpegnhjcaaDoor.Ev
open Go
set_option linter.unusedVariables false
set_option linter.unusedSimpArgs false

/-! ### the rule: a set of operations that have been carried out -/
section
variable {P : Program} {Q : Exit → Act → World → Prop}
/-- how many are not listed -/
def unlisted (listed : Array Bool) : Nat := (listed.toList.filter (fun b => !b)).length
theorem unlisted_set (listed : Array Bool) (i : Nat) (h : listed.getD i true = false) : unlisted (listed.setIfInBounds i true) + 1 = unlisted listed := by
  obtain ⟨l⟩ := listed
  have hi : i < l.length := by
    rcases Nat.lt_or_ge i l.length with h1 | h1
    · exact h1
    · simp [h1] at h
  have hv : l[i] = false := by simpa [hi] using h
  simp only [unlisted, List.setIfInBounds_toArray]
  clear h
  induction l generalizing i with
  | nil => simp at hi
  | cons b l ih =>
    cases i with
    | zero => simp at hv; subst hv; simp
    | succ i =>
      have := ih i (by simpa using hi) (by simpa using hv)
      simp only [List.set_cons_succ, List.filter_cons]
      split <;> simp_all
theorem ready_spec {ops : Array Oper} {listed : Array Bool} {i : Nat} (h : i ∈ Region.ready .any ops listed) :
    listed.getD i true = false ∧ ∃ o, ops[i]? = some o ∧ ∀ e ∈ o.after, Region.binds .any e = true → listed.getD e.on false = true := by
  simp only [Region.ready, List.mem_filter, Bool.and_eq_true, Bool.not_eq_true'] at h
  obtain ⟨_, h1, h2⟩ := h
  cases ho : ops[i]? with
  | none => simp [ho] at h2
  | some o =>
    refine ⟨h1, o, rfl, fun e he hb => ?_⟩
    simp only [ho, Option.map_some, Option.getD_some] at h2
    have := (Array.all_eq_true'.1 h2) e he
    simpa [hb] using this
theorem wpAny_inv {ops : Array Oper} (I : Array Bool → Act → World → Prop)
    (hstep : ∀ listed a w i, I listed a w → i ∈ Region.ready .any ops listed → wpOp P ops Q i (fun a' w' => I (listed.setIfInBounds i true) a' w') a w)
    (hend : ∀ listed a w, I listed a w → Region.ready .any ops listed = [] → Q .normal a w) :
    ∀ (fuel : Nat) (listed : Array Bool) (a : Act) (w : World), unlisted listed ≤ fuel → I listed a w → wpAny P .any ops Q fuel listed a w
  | 0, listed, a, w, hf, hi => by
    have : Region.ready .any ops listed = [] := by
      rw [List.eq_nil_iff_forall_not_mem]
      intro i h
      have := unlisted_set listed i (ready_spec h).1
      omega
    exact ⟨this, hend _ _ _ hi this⟩
  | fuel + 1, listed, a, w, hf, hi => by
    refine ⟨fun h => hend _ _ _ hi h, fun i h => ?_⟩
    have hu := unlisted_set listed i (ready_spec h).1
    exact wpOp_mono (fun a' w' hi' => wpAny_inv I hstep hend fuel _ a' w' (by omega) hi') (hstep _ _ _ _ hi h)
theorem wp_region_sets {ops : Array Oper} {id : Nat} {a : Act} {w : World} (hm : P.follows .mixedOrders = true) (I : (Nat → Prop) → Act → World → Prop)
    (hback : ∀ (i : Nat) o, ops[i]? = some o → ∀ e ∈ o.after, Region.binds .any e = true → e.on < i)
    (h0 : I (fun _ => False) a { w with drawn := w.drawn + 1 })
    (hstep : ∀ L a w (i : Nat) o, I L a w → ¬ L i → ops[i]? = some o → (∀ e ∈ o.after, Region.binds .any e = true → L e.on) →
      if Region.wanted o (yielded ops a.tmps) = true then o.wp P a w (fun a' w' => I (fun j => L j ∨ j = i) a' w') Q else I (fun j => L j ∨ j = i) (a.put o.dst undef) w)
    (hend : ∀ L a w, I L a w → (∀ i, i < ops.size → L i) → Q .normal a w) : (Code.region id ops true).wp P Q a w := by
  refine wp_region_any hm (wpAny_inv (fun listed a w => listed.size = ops.size ∧ I (fun j => listed.getD j false = true) a w) ?_ ?_ _ _ _ _ (by simp [unlisted]) ⟨by simp, ?_⟩)
  · intro listed a w i ⟨hsz, hI⟩ hr
    obtain ⟨hli, o, ho, hdeps⟩ := ready_spec hr
    have hin : i < ops.size := (Array.getElem?_eq_some_iff.1 ho).1
    have hnl : ¬ listed.getD i false = true := by
      have : listed.getD i false = listed.getD i true := by simp [Array.getD_eq_getD_getElem?, Array.getElem?_eq_getElem (show i < listed.size by omega)]
      rw [this, hli]; simp
    have hset : (fun j => (listed.setIfInBounds i true).getD j false = true) = (fun j => listed.getD j false = true ∨ j = i) := by
      funext j
      by_cases e : j = i
      · subst e; simp [Array.getD_eq_getD_getElem?, hsz, hin]
      · simp [Array.getD_eq_getD_getElem?, Ne.symm e, e]
    have hs := hstep _ a w i o hI hnl ho hdeps
    have key : ∀ a' w', I (fun j => listed.getD j false = true ∨ j = i) a' w' → (listed.setIfInBounds i true).size = ops.size ∧ I (fun j => (listed.setIfInBounds i true).getD j false = true) a' w' := fun a' w' h => ⟨by simpa using hsz, by rw [hset]; exact h⟩
    simp only [wpOp, ho]
    split
    · rename_i hw
      rw [if_pos hw] at hs
      exact .inl (Oper.wp_mono key hs)
    · rename_i hw
      rw [if_neg hw] at hs
      exact key _ _ hs
  · intro listed a w ⟨hsz, hI⟩ hr
    refine hend _ a w hI ?_
    have key : ∀ k, k ≤ ops.size → ∀ j, j < k → listed.getD j false = true := by
      intro k
      induction k with
      | zero => intro _ j hj; omega
      | succ k ih =>
        intro hk j hj
        rcases Nat.lt_succ_iff_lt_or_eq.1 hj with h | h
        · exact ih (by omega) j h
        · subst h
          cases hc : listed.getD j false with
          | true => rfl
          | false =>
            exfalso
            have hmem : j ∈ Region.ready .any ops listed := by
              have e1 : listed.getD j true = listed.getD j false := by simp [Array.getD_eq_getD_getElem?, Array.getElem?_eq_getElem (show j < listed.size by omega)]
              simp only [Region.ready, List.mem_filter, List.mem_range, Bool.and_eq_true, Bool.not_eq_true']
              refine ⟨by omega, by rw [e1, hc], ?_⟩
              have ho : ops[j]? = some ops[j] := Array.getElem?_eq_getElem (by omega)
              simp only [ho, Option.map_some, Option.getD_some]
              rw [Array.all_eq_true']
              intro e he
              cases hb : Region.binds .any e with
              | false => rfl
              | true => simpa using ih (by omega) e.on (hback j _ ho e he hb)
            rw [hr] at hmem
            cases hmem
    exact fun i hi => key ops.size (Nat.le_refl _) i hi
  · have : (fun j => (Array.replicate ops.size false).getD j false = true) = (fun _ : Nat => False) := by
      funext j
      by_cases h : j < ops.size <;> simp [Array.getD_eq_getD_getElem?, h]
    rw [this]
    exact h0
end

/-! ### masks -/
theorem tb_eq (m n : Nat) : tb m n = m.testBit n := by
  unfold tb Nat.testBit
  rw [Bool.eq_iff_iff, nbeq]
  have h1 : Nat.land (Nat.shiftRight m n) 1 = (m >>> n) % 2 := Nat.and_one_is_mod _
  have h2 : 1 &&& (m >>> n) = (m >>> n) % 2 := by rw [Nat.and_comm]; exact Nat.and_one_is_mod _
  rw [h1, h2]
  have := Nat.mod_two_eq_zero_or_one (m >>> n)
  rcases this with h | h <;> simp [h]
theorem tb_zero (n : Nat) : tb 0 n = false := by rw [tb_eq]; simp
theorem tb_lor (a b n : Nat) : tb (Nat.lor a b) n = (tb a n || tb b n) := by
  rw [tb_eq, tb_eq, tb_eq]; exact Nat.testBit_or a b n
theorem tb_one (k n : Nat) : tb (Nat.shiftLeft 1 k) n = (k == n) := by
  rw [tb_eq]
  have : Nat.shiftLeft 1 k = 2 ^ k := Nat.one_shiftLeft k
  rw [this, Nat.testBit_two_pow]
  by_cases h : k = n <;> simp [h]
theorem tb_diff (a b n : Nat) : tb (Nat.xor a (Nat.land a b)) n = (tb a n && !tb b n) := by
  rw [tb_eq, tb_eq, tb_eq]
  have h1 : (Nat.xor a (Nat.land a b)).testBit n = ((a.testBit n) ^^ ((Nat.land a b).testBit n)) := Nat.testBit_xor a (Nat.land a b) n
  have h2 : (Nat.land a b).testBit n = (a.testBit n && b.testBit n) := Nat.testBit_and a b n
  rw [h1, h2]
  cases a.testBit n <;> cases b.testBit n <;> rfl
def revOf {α : Type} (f : Nat → α) : Nat → List α
  | 0 => []
  | i + 1 => f i :: revOf f i
theorem revOf_len {α : Type} (f : Nat → α) : ∀ i, (revOf f i).length = i
  | 0 => rfl
  | i + 1 => by simp [revOf, revOf_len f i]
theorem revOf_get {α : Type} (f : Nat → α) : ∀ i k, k < i → (revOf f i)[k]? = some (f (i - 1 - k))
  | 0, k, h => by omega
  | i + 1, 0, h => by simp [revOf]
  | i + 1, k + 1, h => by
    simp only [revOf, List.getElem?_cons_succ]
    rw [revOf_get f i k (by omega)]
    congr 2
    omega
theorem revOf_at {α : Type} (f : Nat → α) {i j : Nat} (h : j < i) : (revOf f i)[i - 1 - j]? = some (f j) := by
  rw [revOf_get f i _ (by omega)]
  congr 2
  omega
theorem revOf_some {α : Type} {f : Nat → α} {i k : Nat} {x : α} (h : (revOf f i)[k]? = some x) : k < i ∧ f (i - 1 - k) = x := by
  have hk : k < i := by
    rcases Nat.lt_or_ge k i with h1 | h1
    · exact h1
    · rw [List.getElem?_eq_none (by rw [revOf_len]; omega)] at h; cases h
  rw [revOf_get f i k hk] at h
  exact ⟨hk, Option.some.inj h⟩
theorem mskOf_spec {ms : List Nat} {k : Nat} : ∀ {es : List Edge} {acc m : Nat}, mskOf ms k es acc = some m →
    (∀ e ∈ es, Region.binds .any e = true → e.on < k) ∧ ∀ j, tb m j = true ↔ tb acc j = true ∨ ∃ e ∈ es, Region.binds .any e = true ∧ (j = e.on ∨ ∃ m', ms[k - 1 - e.on]? = some m' ∧ tb m' j = true)
  | [], acc, m, h => by cases h; simp
  | e :: es, acc, m, h => by
    simp only [mskOf] at h
    cases hb : Region.binds .any e with
    | false =>
      rw [hb] at h
      simp only [cond_false] at h
      obtain ⟨h1, h2⟩ := mskOf_spec h
      refine ⟨fun e' he' hb' => ?_, fun j => ?_⟩
      · rcases List.mem_cons.1 he' with rfl | h3
        · rw [hb] at hb'; cases hb'
        · exact h1 e' h3 hb'
      · rw [h2]
        simp [hb]
    | true =>
      rw [hb] at h
      simp only [cond_true] at h
      cases hl : Nat.blt e.on k with
      | false => rw [hl] at h; cases h
      | true =>
        rw [hl] at h
        simp only [cond_true] at h
        split at h
        · rename_i m' hm'
          obtain ⟨h1, h2⟩ := mskOf_spec h
          have hlt : e.on < k := Nat.le_of_ble_eq_true hl
          refine ⟨fun e' he' hb' => ?_, fun j => ?_⟩
          · rcases List.mem_cons.1 he' with rfl | h3
            · exact hlt
            · exact h1 e' h3 hb'
          · rw [h2, tb_lor, tb_lor, tb_one]
            simp only [Bool.or_eq_true, beq_iff_eq, List.mem_cons]
            constructor
            · rintro (((h3 | h3) | h3) | ⟨e', h3, h4, h5⟩)
              · exact .inl h3
              · exact .inr ⟨e, .inl rfl, hb, .inl h3.symm⟩
              · exact .inr ⟨e, .inl rfl, hb, .inr ⟨m', hm', h3⟩⟩
              · exact .inr ⟨e', .inr h3, h4, h5⟩
            · rintro (h3 | ⟨e', rfl | h3, h4, h5⟩)
              · exact .inl (.inl (.inl h3))
              · rcases h5 with h5 | ⟨m'', h5, h6⟩
                · exact .inl (.inl (.inr h5.symm))
                · rw [hm'] at h5; cases h5; exact .inl (.inr h6)
              · exact .inr ⟨e', h3, h4, h5⟩
        · cases h
theorem bitsOf_mem {un : Nat} : ∀ {k o0 j : Nat}, j ∈ bitsOf un k o0 ↔ ∃ o, j = o0 + o ∧ o < k ∧ tb un (k - 1 - o) = true
  | 0, o0, j => by simp [bitsOf]
  | k + 1, o0, j => by
    have ih := @bitsOf_mem un k (o0 + 1) j
    simp only [bitsOf]
    have aux : (∃ o, j = o0 + o ∧ o < k + 1 ∧ tb un (k + 1 - 1 - o) = true) ↔ (j = o0 ∧ tb un k = true) ∨ ∃ o, j = o0 + 1 + o ∧ o < k ∧ tb un (k - 1 - o) = true := by
      constructor
      · rintro ⟨o, h1, h2, h3⟩
        cases o with
        | zero => exact .inl ⟨h1, by simpa using h3⟩
        | succ o => exact .inr ⟨o, by omega, by omega, by rw [← h3]; congr 1; omega⟩
      · rintro (⟨h1, h2⟩ | ⟨o, h1, h2, h3⟩)
        · exact ⟨0, by omega, by omega, by simpa using h2⟩
        · exact ⟨o + 1, by omega, by omega, by rw [← h3]; congr 1; omega⟩
    rw [aux]
    cases hb : tb un k with
    | true => simp only [cond_true, List.mem_cons, ih, and_true]
    | false => simp only [cond_false, ih, Bool.false_eq_true, and_false, false_or]

/-! ### the preparation, operation by operation -/
section
variable (T : Tr TI) (π : List Nat) (nt : Nat) (ops : Array Oper)
def opAt (i : Nat) : Oper := ops.getD i default
def dD (i : Nat) : Option Nat := (opAt ops i).dst
def rD (i : Nat) : List Nat := tmpsOf (opAt ops i).op.operands.toList
def rM : Nat → List Nat
  | 0 => []
  | i + 1 => ((mskOf (rM i) i (opAt ops i).after.toList 0).getD 0) :: rM i
def mM (i : Nat) : Nat := (mskOf (rM ops i) i (opAt ops i).after.toList 0).getD 0
theorem rM_eq : ∀ i, rM ops i = revOf (mM ops) i
  | 0 => rfl
  | i + 1 => by
    show mM ops i :: rM ops i = mM ops i :: revOf (mM ops) i
    rw [rM_eq i]
noncomputable def pO (i : Nat) : IOper := (cOper T π nt (revOf (dD ops) i) i (opAt ops i)).getD (.mk none (.a .bad) none)
noncomputable def aO (i : Nat) : Bool := isAct (pO T π nt ops i)
noncomputable def acts : Nat → Nat
  | 0 => 0
  | i + 1 => bif aO T π nt ops i then Nat.lor (acts i) (Nat.shiftLeft 1 i) else acts i
noncomputable def unO (i : Nat) : Nat := Nat.xor (acts T π nt ops i) (Nat.land (acts T π nt ops i) (mM ops i))
theorem acts_spec : ∀ i j, tb (acts T π nt ops i) j = (decide (j < i) && aO T π nt ops j)
  | 0, j => by simp [acts, tb_zero]
  | i + 1, j => by
    have ih := acts_spec i j
    simp only [acts]
    cases ha : aO T π nt ops i with
    | true =>
      simp only [cond_true, tb_lor, tb_one, ih]
      by_cases e : i = j
      · subst e; simp [ha]
      · have h1 : (i == j) = false := by simpa using e
        have h2 : decide (j < i + 1) = decide (j < i) := by rw [decide_eq_decide]; omega
        rw [h1, h2, Bool.or_false]
    | false =>
      simp only [cond_false, ih]
      by_cases e : i = j
      · subst e; simp [ha]
      · have h2 : decide (j < i + 1) = decide (j < i) := by rw [decide_eq_decide]; omega
        rw [h2]
theorem unO_spec (i j : Nat) : tb (unO T π nt ops i) j = (decide (j < i) && aO T π nt ops j && !tb (mM ops i) j) := by
  unfold unO
  rw [tb_diff, acts_spec]
structure OpF (i : Nat) : Prop where
  oper : cOper T π nt (revOf (dD ops) i) i (opAt ops i) = some (pO T π nt ops i)
  msk : mskOf (revOf (mM ops) i) i (opAt ops i).after.toList 0 = some (mM ops i)
  reads : readsOk (revOf (dD ops) i) i (mM ops i) (opAt ops i).op.operands.toList = true
  grd : guardIn (mM ops i) (opAt ops i).guard = true
  fresh : freshD (revOf (dD ops) i) (dD ops i) = true
  wr : wrOkO (revOf (rD ops) i) (mM ops i) (dD ops i) = true
theorem cDr1_spec : ∀ (r : List Oper) (n : Nat) (l : List (IOper × Bool × Nat)), (∀ k o, r[k]? = some o → opAt ops (n + k) = o) →
    cDr1 T π nt (revOf (dD ops) n) (revOf (rD ops) n) (revOf (mM ops) n) (acts T π nt ops n) n r = some l →
    l.length = r.length ∧ ∀ k, k < r.length → OpF T π nt ops (n + k) ∧ l[k]? = some (pO T π nt ops (n + k), aO T π nt ops (n + k), unO T π nt ops (n + k))
  | [], n, l, hr, h => by cases h; simp
  | o :: r, n, l, hr, h => by
    have ho : opAt ops n = o := hr 0 o rfl
    subst ho
    simp only [cDr1] at h
    split at h
    · rename_i ip m hip hm
      have e1 : pO T π nt ops n = ip := by unfold pO; rw [hip]; rfl
      have e2 : mM ops n = m := by unfold mM; rw [rM_eq, hm]; rfl
      subst e1 e2
      cases hb : (readsOk (revOf (dD ops) n) n (mM ops n) (opAt ops n).op.operands.toList && (guardIn (mM ops n) (opAt ops n).guard && (freshD (revOf (dD ops) n) (opAt ops n).dst && wrOkO (revOf (rD ops) n) (mM ops n) (opAt ops n).dst))) with
      | false => rw [hb] at h; cases h
      | true =>
        rw [hb] at h
        simp only [cond_true] at h
        simp only [Bool.and_eq_true] at hb
        obtain ⟨b1, b2, b3, b4⟩ := hb
        split at h
        · rename_i l' hl'
          cases h
          obtain ⟨i1, i2⟩ := cDr1_spec r (n + 1) l' (fun k o hk => by have := hr (k + 1) o (by simpa using hk); rw [← this]; congr 1; omega) hl'
          refine ⟨by simp [i1], fun k hk => ?_⟩
          cases k with
          | zero => exact ⟨⟨hip, hm, b1, b2, b3, b4⟩, rfl⟩
          | succ k =>
            have := i2 k (by simpa using hk)
            rw [show n + 1 + k = n + (k + 1) by omega] at this
            exact ⟨this.1, by simpa using this.2⟩
        · cases h
    · cases h
/-- is there one that is not behind all, from a place on? -/
def badFrom : List (IOper × Bool × Nat) → Bool
  | [] => false
  | (_, act, un) :: r => badFrom r || (act && !(Nat.beq un 0))
theorem cDr2_spec : ∀ (l : List (IOper × Bool × Nat)) (k : Nat), (cDr2 k l).2 = badFrom l ∧ (cDr2 k l).1.length = l.length ∧
    ∀ i op act un, l[i]? = some (op, act, un) → (cDr2 k l).1[i]? = some (op, bif act && badFrom (l.drop i) then some (bitsOf un (k + i) 0) else none)
  | [], k => by simp [cDr2, badFrom]
  | (op, act, un) :: r, k => by
    obtain ⟨i1, i2, i3⟩ := cDr2_spec r (k + 1)
    simp only [cDr2]
    refine ⟨by rw [i1]; rfl, by simp [i2], fun i op' act' un' h => ?_⟩
    cases i with
    | zero =>
      simp only [List.getElem?_cons_zero, Option.some.injEq, Prod.mk.injEq] at h
      obtain ⟨rfl, rfl, rfl⟩ := h
      simp only [List.getElem?_cons_zero, List.drop_zero, badFrom, Nat.add_zero, i1]
    | succ i =>
      simp only [List.getElem?_cons_succ] at h ⊢
      rw [i3 i op' act' un' h]
      simp only [List.drop_succ_cons]
      rw [show k + 1 + i = k + (i + 1) by omega]
theorem badFrom_spec : ∀ (l : List (IOper × Bool × Nat)), badFrom l = true ↔ ∃ (i : Nat) (op : IOper) (un : Nat), l[i]? = some (op, true, un) ∧ un ≠ 0
  | [] => by simp [badFrom]
  | (op, act, un) :: r => by
    simp only [badFrom, Bool.or_eq_true, badFrom_spec r, Bool.and_eq_true, Bool.not_eq_true']
    constructor
    · rintro (⟨i, op', un', h1, h2⟩ | ⟨rfl, h⟩)
      · exact ⟨i + 1, op', un', by simpa using h1, h2⟩
      · exact ⟨0, op, un, rfl, fun e => by subst e; simp at h⟩
    · rintro ⟨i, op', un', h1, h2⟩
      cases i with
      | zero =>
        simp only [List.getElem?_cons_zero, Option.some.injEq, Prod.mk.injEq] at h1
        obtain ⟨rfl, rfl, rfl⟩ := h1
        exact .inr ⟨rfl, by cases h : Nat.beq un 0 with
                            | false => rfl
                            | true => exact absurd (Nat.eq_of_beq_eq_true h) h2⟩
      | succ i => exact .inl ⟨i, op', un', by simpa using h1, h2⟩
/-- how an operation is carried out -/
noncomputable def md (i : Nat) : Option (List Nat) :=
  open Classical in if aO T π nt ops i = true ∧ ∃ j, i ≤ j ∧ j < ops.size ∧ aO T π nt ops j = true ∧ unO T π nt ops j ≠ 0 then some (bitsOf (unO T π nt ops i) i 0) else none
theorem cDraw_spec {l : List (IOper × Option (List Nat))} (h : cDraw T π nt ops.toList = some l) :
    l.length = ops.size ∧ ∀ i, i < ops.size → OpF T π nt ops i ∧ l[i]? = some (pO T π nt ops i, md T π nt ops i) := by
  unfold cDraw at h
  split at h
  · rename_i l1 h1
    cases h
    obtain ⟨a1, a2⟩ := cDr1_spec T π nt ops ops.toList 0 l1 (fun k o hk => by
      rw [Array.getElem?_toList] at hk
      simp [opAt, Array.getD_eq_getD_getElem?, hk]) h1
    obtain ⟨_, b2, b3⟩ := cDr2_spec l1 0
    refine ⟨by rw [b2, a1]; simp, fun i hi => ?_⟩
    have := a2 i (by simpa using hi)
    rw [Nat.zero_add] at this
    refine ⟨this.1, ?_⟩
    rw [b3 i _ _ _ this.2]
    congr 2
    rw [Nat.zero_add]
    unfold md
    have hbad : badFrom (l1.drop i) = true ↔ ∃ j, i ≤ j ∧ j < ops.size ∧ aO T π nt ops j = true ∧ unO T π nt ops j ≠ 0 := by
      rw [badFrom_spec]
      constructor
      · rintro ⟨k, op, un, h2, h3⟩
        rw [List.getElem?_drop] at h2
        have hk : i + k < ops.toList.length := by
          have := (List.getElem?_eq_some_iff.1 h2).1
          rw [a1] at this
          exact this
        have h4 := (a2 (i + k) hk).2
        rw [Nat.zero_add] at h4
        rw [h4] at h2
        simp only [Option.some.injEq, Prod.mk.injEq] at h2
        exact ⟨i + k, by omega, by simpa using hk, h2.2.1, by rw [h2.2.2]; exact h3⟩
      · rintro ⟨j, h2, h3, h4, h5⟩
        have h6 := (a2 j (by simpa using h3)).2
        rw [Nat.zero_add, h4] at h6
        exact ⟨j - i, _, _, by rw [List.getElem?_drop, show i + (j - i) = j by omega]; exact h6, h5⟩
    by_cases hc : aO T π nt ops i = true ∧ ∃ j, i ≤ j ∧ j < ops.size ∧ aO T π nt ops j = true ∧ unO T π nt ops j ≠ 0
    · rw [if_pos hc, hc.1, hbad.2 hc.2]; rfl
    · rw [if_neg hc]
      cases ha : aO T π nt ops i with
      | false => rfl
      | true =>
        have : badFrom (l1.drop i) = false := by
          cases hb : badFrom (l1.drop i) with
          | false => rfl
          | true => exact absurd ⟨ha, hbad.1 hb⟩ hc
        rw [this]; rfl
  · cases h
end
end Go.Proofs.YtmaaalpegnhjcaaDoor.Ev
