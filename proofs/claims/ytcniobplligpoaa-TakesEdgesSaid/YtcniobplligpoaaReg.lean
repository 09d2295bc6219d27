/- A region that draws its order and whose operations each make a value of their own, new memory among it, and write nothing that was there: one obligation an operation serves every order; the last operation (a store, an assignment) comes behind all others. Conditions: no guards; each operation writes a slot of its own. -/
import Derived.Test.YtcniobplligpoaaApp
import Derived.Orders
namespace Go.Proofs.Ytcniobplligpoaa
open Go.RowKit

section
variable {P : Program} {Q : Exit → Act → World → Prop}

/-- how many are not listed -/
def unlisted (listed : Array Bool) : Nat := (listed.toList.filter (fun b => !b)).length

theorem unlisted_set (listed : Array Bool) (i : Nat) (h : listed.getD i true = false) : unlisted (listed.setIfInBounds i true) + 1 = unlisted listed := by
  obtain ⟨l⟩ := listed
  have hi : i < l.length := by
    rcases Nat.lt_or_ge i l.length with h1 | h1
    · exact h1
    · simp [h1] at h
  have hv : l[i] = false := by simpa [hi] using h
  simp only [unlisted, List.setIfInBounds_toArray]
  clear h
  induction l generalizing i with
  | nil => simp at hi
  | cons b l ih =>
    cases i with
    | zero => simp at hv; subst hv; simp
    | succ i =>
      have := ih i (by simpa using hi) (by simpa using hv)
      simp only [List.set_cons_succ, List.filter_cons]
      split <;> simp_all

theorem ready_spec {ops : Array Oper} {listed : Array Bool} {i : Nat} (h : i ∈ Region.ready .any ops listed) :
    listed.getD i true = false ∧ ∃ o, ops[i]? = some o ∧ ∀ e ∈ o.after, Region.binds .any e = true → listed.getD e.on false = true := by
  simp only [Region.ready, List.mem_filter, Bool.and_eq_true, Bool.not_eq_true'] at h
  obtain ⟨_, h1, h2⟩ := h
  cases ho : ops[i]? with
  | none => simp [ho] at h2
  | some o =>
    refine ⟨h1, o, rfl, fun e he hb => ?_⟩
    simp only [ho, Option.map_some, Option.getD_some] at h2
    have := (Array.all_eq_true'.1 h2) e he
    simpa [hb] using this

theorem wpAny_inv {ops : Array Oper} (I : Array Bool → Act → World → Prop)
    (hstep : ∀ listed a w i, I listed a w → i ∈ Region.ready .any ops listed → wpOp P ops Q i (fun a' w' => I (listed.setIfInBounds i true) a' w') a w)
    (hend : ∀ listed a w, I listed a w → Region.ready .any ops listed = [] → Q .normal a w) :
    ∀ (fuel : Nat) (listed : Array Bool) (a : Act) (w : World), unlisted listed ≤ fuel → I listed a w → wpAny P .any ops Q fuel listed a w
  | 0, listed, a, w, hf, hi => by
    have : Region.ready .any ops listed = [] := by
      rw [List.eq_nil_iff_forall_not_mem]
      intro i h
      have := unlisted_set listed i (ready_spec h).1
      omega
    exact ⟨this, hend _ _ _ hi this⟩
  | fuel + 1, listed, a, w, hf, hi => by
    refine ⟨fun h => hend _ _ _ hi h, fun i h => ?_⟩
    have hu := unlisted_set listed i (ready_spec h).1
    exact wpOp_mono (fun a' w' hi' => wpAny_inv I hstep hend fuel _ a' w' (by omega) hi') (hstep _ _ _ _ hi h)

theorem unlisted_start (n : Nat) : unlisted (Array.replicate n false) = n := by simp [unlisted]

theorem wp_region_inv {l : List Oper} {id : Nat} {a : Act} {w : World} (hm : P.follows .mixedOrders = true) (I : Array Bool → Act → World → Prop)
    (h0 : I (Array.replicate l.length false) a w.drew)
    (hstep : ∀ listed a w i, I listed a w → i ∈ Region.ready .any l.toArray listed → wpOp P l.toArray Q i (fun a' w' => I (listed.setIfInBounds i true) a' w') a w)
    (hend : ∀ listed a w, I listed a w → Region.ready .any l.toArray listed = [] → Q .normal a w) : (Code.region id l.toArray true).wp P Q a w :=
  wp_region_any hm (wpAny_inv I hstep hend _ _ _ _ (by simp [unlisted_start]) (by simpa using h0))

def dstOf (l : List Oper) (j : Nat) : Nat := ((l[j]?).bind (·.dst)).getD 0
/-- the form that the law below asks of a region: m operations of their own slots, one more behind all of them -/
def shapeB (l : List Oper) (m : Nat) : Bool :=
  l.length == m + 1 &&
  (List.range m).all (fun j => (l[j]?).any (fun o => o.guard.isNone && o.dst.isSome && o.after.all (fun e => !Region.binds .any e || e.on < j))) &&
  (List.range m).all (fun i => (List.range m).all (fun j => i == j || dstOf l i != dstOf l j)) &&
  (l[m]?).any (fun o => o.guard.isNone && o.after.all (fun e => !Region.binds .any e || e.on < m) && (List.range m).all (fun j => o.after.any (fun e => Region.binds .any e && e.on == j)))

/-- the frame when each operation's value lies in its slot -/
def putAll (l : List Oper) (vs : Nat → Value) : Nat → Act → Act
  | 0, a => a
  | m + 1, a => (putAll l vs m a).put (some (dstOf l m)) (vs m)

theorem act_put_getD (a : Act) (d t : Nat) (v : Value) (h : d < a.tmps.size) : (a.put (some d) v).tmps.getD t undef = if t = d then v else a.tmps.getD t undef := by
  simp only [Act.put, Array.getD_eq_getD_getElem?, Array.getElem?_setIfInBounds]
  by_cases e : d = t
  · subst e; simp [h]
  · rw [if_neg e, if_neg (fun h => e h.symm)]
theorem act_put_size (a : Act) (d : Option Tmp) (v : Value) : (a.put d v).tmps.size = a.tmps.size := by
  cases d <;> simp [Act.put]
theorem act_put_defers (a : Act) (d : Option Tmp) (v : Value) : (a.put d v).defers = a.defers := by
  cases d <;> simp [Act.put]
theorem putAll_size (l : List Oper) (vs : Nat → Value) (a : Act) : ∀ m, (putAll l vs m a).tmps.size = a.tmps.size ∧ (putAll l vs m a).defers = a.defers
  | 0 => ⟨rfl, rfl⟩
  | m + 1 => ⟨(act_put_size _ _ _).trans (putAll_size l vs a m).1, (act_put_defers _ _ _).trans (putAll_size l vs a m).2⟩

theorem act_ext {a b : Act} (h1 : a.defers = b.defers) (h2 : a.tmps.size = b.tmps.size) (h3 : ∀ t, a.tmps.getD t undef = b.tmps.getD t undef) : a = b := by
  obtain ⟨x, d⟩ := a
  obtain ⟨y, d'⟩ := b
  simp only at h1 h2 h3
  subst h1
  have : x = y := by
    refine Array.ext h2 fun i hi hi' => ?_
    have := h3 i
    simpa [Array.getD_eq_getD_getElem?, hi, hi'] using this
  subst this
  rfl

theorem putAll_eq {l : List Oper} {a a0 : Act} {m : Nat} (hd : a.defers = a0.defers) (hs : a.tmps.size = a0.tmps.size) (hlt : ∀ j, j < m → dstOf l j < a0.tmps.size)
    (hf : ∀ t, (∀ j, j < m → dstOf l j ≠ t) → a.tmps.getD t undef = a0.tmps.getD t undef) :
    a = putAll l (fun j => a.tmps.getD (dstOf l j) undef) m a0 := by
  have key : ∀ k, k ≤ m → ∀ t, (putAll l (fun j => a.tmps.getD (dstOf l j) undef) k a0).tmps.getD t undef = a.tmps.getD t undef ∨
      ((∀ j, j < k → dstOf l j ≠ t) ∧ (putAll l (fun j => a.tmps.getD (dstOf l j) undef) k a0).tmps.getD t undef = a0.tmps.getD t undef) := by
    intro k
    induction k with
    | zero => exact fun _ t => .inr ⟨fun j hj => by omega, rfl⟩
    | succ k ih =>
      intro hk t
      rw [putAll, act_put_getD _ _ _ _ (by rw [(putAll_size l _ a0 k).1]; exact hlt k (by omega))]
      by_cases e : t = dstOf l k
      · rw [if_pos e]; exact .inl (by rw [e])
      · rw [if_neg e]
        rcases ih (by omega) t with h | ⟨h, h'⟩
        · exact .inl h
        · refine .inr ⟨fun j hj => ?_, h'⟩
          rcases Nat.lt_succ_iff_lt_or_eq.1 hj with h1 | h1
          · exact h j h1
          · subst h1; exact fun h => e h.symm
  refine act_ext (hd.trans (putAll_size l _ a0 m).2.symm) (hs.trans (putAll_size l _ a0 m).1.symm) fun t => ?_
  rcases key m (Nat.le_refl _) t with h | ⟨h, h'⟩
  · exact h.symm
  · rw [h', hf t h]

theorem wp_region_build {l : List Oper} {id m : Nat} {a0 : Act} {W0 : World} (hm : P.follows .mixedOrders = true) (hshape : shapeB l m = true) (S : Nat → Value → World → Prop)
    (hstable : ∀ i v w w', Below w.heap.size w w' → S i v w → S i v w')
    (hltb : (List.range m).all (fun j => decide (dstOf l j < a0.tmps.size)) = true)
    (hstep : ∀ i o, i < m → l[i]? = some o → ∀ a w, Below W0.heap.size W0 w → (∀ t, (List.range m).all (fun j => dstOf l j != t) = true → (a.tmps[t]?).getD undef = (a0.tmps[t]?).getD undef) →
      (∀ j, o.after.any (fun e => Region.binds .any e && e.on == j) = true → S j ((a.tmps[dstOf l j]?).getD undef) w) →
      o.wp P a w (fun a' w' => ∃ v, a' = a.put o.dst v ∧ Below w.heap.size w w' ∧ S i v w') Q)
    (hlast : ∀ o, l[m]? = some o → ∀ (vs : Nat → Value) w, Below W0.heap.size W0 w → (∀ i, i < m → S i (vs i) w) → o.wp P (putAll l vs m a0) w (Q .normal) Q) :
    (Code.region id l.toArray true).wp P Q a0 W0 := by
  have hlt : ∀ j, j < m → dstOf l j < a0.tmps.size := fun j hj => by simpa using (List.all_eq_true.1 hltb) j (List.mem_range.2 hj)
  simp only [shapeB, Bool.and_eq_true, beq_iff_eq, List.all_eq_true, List.mem_range, Bool.or_eq_true, bne_iff_ne] at hshape
  obtain ⟨⟨⟨hlen, hops⟩, hnd⟩, hl⟩ := hshape
  have opOf : ∀ i, i < m → ∃ o d, l[i]? = some o ∧ o.guard = none ∧ o.dst = some d ∧ dstOf l i = d ∧ ∀ e ∈ o.after, Region.binds .any e = true → e.on < i := by
    intro i hi
    have h := hops i hi
    cases ho : l[i]? with
    | none => simp [ho] at h
    | some o =>
    rw [ho, Option.any_some] at h
    simp only [Bool.and_eq_true, Option.isNone_iff_eq_none, Option.isSome_iff_exists] at h
    obtain ⟨⟨h1, d, h2⟩, h3⟩ := h
    refine ⟨o, d, rfl, h1, h2, by simp [dstOf, ho, h2], fun e he hb => ?_⟩
    have := (Array.all_eq_true'.1 h3) e he
    simpa [hb] using this
  have inj : ∀ i j, i < m → j < m → dstOf l i = dstOf l j → i = j := by
    intro i j hi hj h
    rcases hnd i hi j hj with h1 | h1
    · exact h1
    · exact absurd h h1
  obtain ⟨ol, hol, hlg, hla, hlall⟩ : ∃ o, l[m]? = some o ∧ o.guard = none ∧ (∀ e ∈ o.after, Region.binds .any e = true → e.on < m) ∧ ∀ j, j < m → ∃ e ∈ o.after, Region.binds .any e = true ∧ e.on = j := by
    cases ho : l[m]? with
    | none => simp [ho] at hl
    | some o =>
    have h := hl
    rw [ho, Option.any_some] at h
    simp only [Bool.and_eq_true, Option.isNone_iff_eq_none, List.all_eq_true, List.mem_range] at h
    obtain ⟨⟨h1, h2⟩, h3⟩ := h
    refine ⟨o, rfl, h1, fun e he hb => ?_, fun j hj => ?_⟩
    · have := (Array.all_eq_true'.1 h2) e he
      simpa [hb] using this
    · have := h3 j hj
      rw [Array.any_eq_true'] at this
      obtain ⟨e, he, hb⟩ := this
      simp only [Bool.and_eq_true, beq_iff_eq] at hb
      exact ⟨e, he, hb.1, hb.2⟩
  refine wp_region_inv hm (fun listed a w => listed.size = m + 1 ∧ ((∀ j, j < m + 1 → listed.getD j false = true) ∧ Q .normal a w ∨
      listed.getD m false = false ∧ Below W0.heap.size W0 w ∧ a.defers = a0.defers ∧ a.tmps.size = a0.tmps.size ∧
        (∀ t, (∀ j, j < m → listed.getD j false = true → dstOf l j ≠ t) → a.tmps.getD t undef = a0.tmps.getD t undef) ∧
        ∀ j, j < m → listed.getD j false = true → S j (a.tmps.getD (dstOf l j) undef) w)) ?_ ?_ ?_
  · refine ⟨by simp [hlen], .inr ⟨by simp [hlen], (Below.refl _ _).drew, rfl, rfl, fun _ _ => rfl, fun j hj h => ?_⟩⟩
    simp [hlen, Nat.lt_succ_of_lt hj] at h
  · intro listed a w i hI hr
    obtain ⟨hsz, hI⟩ := hI
    obtain ⟨hli, o, ho, hdeps⟩ := ready_spec hr
    rw [List.getElem?_toArray] at ho
    have hin : i < m + 1 := by rw [← hlen]; exact (List.getElem?_eq_some_iff.1 ho).1
    have get : ∀ j, j < m + 1 → listed.getD j true = listed.getD j false := fun j hj => by simp [Array.getD_eq_getD_getElem?, Array.getElem?_eq_getElem (show j < listed.size by omega)]
    rcases hI with ⟨hall, _⟩ | ⟨hm0, hB, hdf, hts, hfr, hS⟩
    · rw [get i hin, hall i hin] at hli; cases hli
    have hset : ∀ j, j ≠ i → (listed.setIfInBounds i true).getD j false = listed.getD j false := fun j hj => by
      simp [Array.getD_eq_getD_getElem?, Ne.symm hj]
    have hseti : (listed.setIfInBounds i true).getD i false = true := by
      simp [Array.getD_eq_getD_getElem?, hsz, hin]
    rcases Nat.lt_succ_iff_lt_or_eq.1 hin with him | him
    · obtain ⟨o', d, ho', hg, hd, hdd, hdep'⟩ := opOf i him
      rw [ho] at ho'; cases ho'
      have hw : Region.wanted o (yielded l.toArray a.tmps) = true := by simp [Region.wanted, hg]
      have hstp := hstep i o him ho a w hB (fun t ht => by
          have := hfr t (fun j hj _ => by simpa using (List.all_eq_true.1 ht) j (List.mem_range.2 hj))
          rwa [Array.getD_eq_getD_getElem?, Array.getD_eq_getD_getElem?] at this)
        (fun j hj => by
          rw [Array.any_eq_true'] at hj
          obtain ⟨e, he, hb⟩ := hj
          simp only [Bool.and_eq_true, beq_iff_eq] at hb
          obtain ⟨hb, rfl⟩ := hb
          rw [← Array.getD_eq_getD_getElem?]
          exact hS e.on (by have := hdep' e he hb; omega) (hdeps e he hb))
      simp only [wpOp, List.getElem?_toArray, ho, hw, if_true]
      refine .inl (Oper.wp_mono (fun a' w' h => ?_) hstp)
      obtain ⟨v, rfl, hB', hSv⟩ := h
      refine ⟨by simp [hsz], .inr ⟨by rw [hset m (by omega)]; exact hm0, hB.trans (hB'.mono hB.size), (act_put_defers _ _ _).trans hdf, (act_put_size _ _ _).trans hts, fun t ht => ?_, fun j hj hjl => ?_⟩⟩
      · rw [hd, act_put_getD _ _ _ _ (by rw [hts, ← hdd]; exact hlt i him), if_neg (fun e => ht i him hseti (by rw [hdd, e]))]
        refine hfr t fun j hj hjl => ht j hj ?_
        by_cases e : j = i
        · subst e; exact hseti
        · rw [hset j e]; exact hjl
      · rw [hd, act_put_getD _ _ _ _ (by rw [hts, ← hdd]; exact hlt i him)]
        by_cases e : j = i
        · subst e; rw [if_pos hdd]; exact hSv
        · rw [if_neg (fun h => e (inj j i hj him (h.trans hdd.symm)))]
          exact hstable _ _ _ _ hB' (hS j hj (by rw [← hset j e]; exact hjl))
    · subst him
      obtain rfl : o = ol := Option.some.inj (ho.symm.trans hol)
      have hw : Region.wanted o (yielded l.toArray a.tmps) = true := by simp [Region.wanted, hlg]
      have hall : ∀ j, j < i → listed.getD j false = true := fun j hj => by
        obtain ⟨e, he, hb, rfl⟩ := hlall j hj
        exact hdeps e he hb
      have hpa := putAll_eq (l := l) hdf hts hlt (fun t ht => hfr t (fun j hj _ => ht j hj))
      have hL := hlast o ho (fun j => a.tmps.getD (dstOf l j) undef) w hB (fun j hj => hS j hj (hall j hj))
      rw [← hpa] at hL
      simp only [wpOp, List.getElem?_toArray, ho, hw, if_true]
      refine .inl (Oper.wp_mono (fun a' w' h => ⟨by simp [hsz], .inl ⟨fun j hj => ?_, h⟩⟩) hL)
      by_cases e : j = i
      · subst e; exact hseti
      · rw [hset j e]; exact hall j (by omega)
  · intro listed a w hI hr
    obtain ⟨hsz, ⟨_, hq⟩ | ⟨hm0, _⟩⟩ := hI
    · exact hq
    · exfalso
      -- the least that is not listed is ready
      have get : ∀ j, j < m + 1 → listed.getD j true = listed.getD j false := fun j hj => by simp [Array.getD_eq_getD_getElem?, Array.getElem?_eq_getElem (show j < listed.size by omega)]
      have key : ∀ k, k ≤ m + 1 → ∀ j, j < k → listed.getD j false = true := by
        intro k
        induction k with
        | zero => intro _ j hj; omega
        | succ k ih =>
          intro hk j hj
          rcases Nat.lt_succ_iff_lt_or_eq.1 hj with h | h
          · exact ih (by omega) j h
          · subst h
            cases hc : listed.getD j false with
            | true => rfl
            | false =>
              exfalso
              have hmem : j ∈ Region.ready .any l.toArray listed := by
                simp only [Region.ready, List.mem_filter, List.mem_range, Bool.and_eq_true, Bool.not_eq_true']
                refine ⟨by simp [hlen]; omega, by rw [get j (by omega), hc], ?_⟩
                have hdep : ∃ o, l[j]? = some o ∧ ∀ e ∈ o.after, Region.binds .any e = true → e.on < j := by
                  rcases Nat.lt_succ_iff_lt_or_eq.1 (show j < m + 1 by omega) with h | h
                  · obtain ⟨o, _, ho, _, _, _, h⟩ := opOf j h
                    exact ⟨o, ho, h⟩
                  · subst h; exact ⟨ol, hol, hla⟩
                obtain ⟨o, ho, hd⟩ := hdep
                simp only [List.getElem?_toArray, ho, Option.map_some, Option.getD_some]
                rw [Array.all_eq_true']
                intro e he
                cases hb : Region.binds .any e with
                | false => rfl
                | true => simpa using ih (by omega) e.on (hd e he hb)
              rw [hr] at hmem
              cases hmem
      have := key (m + 1) (Nat.le_refl _) m (by omega)
      rw [hm0] at this
      cases this
theorem heap_set_row {w : World} {g : Nat} {cs : Array Value} {t : TypeId} {fz : Nat × Nat} (h : w.heap[g]? = some (.cells cs t fz)) (i : Nat) (u : Value) :
    (w.setCell ⟨g, i, none⟩ u).heap[g]? = some (.cells (cs.setIfInBounds i u) t fz) := by
  simp [World.setCell, Array.getElem?_modify, h]
theorem frozen_row {w : World} {g : Nat} {cs : Array Value} {t : TypeId} (h : w.heap[g]? = some (.cells cs t (0, 0))) (i : Nat) : w.frozen? ⟨g, i, none⟩ = false := by
  simp [World.frozen?, h]
theorem heap_keep {w w' : World} {b : Nat} {o : Obj} (h : Below w.heap.size w w') (hb : w.heap[b]? = some o) : w'.heap[b]? = some o := by
  rcases Nat.lt_or_ge b w.heap.size with h1 | h1
  · rw [h.block b h1, hb]
  · rw [Array.getElem?_eq_none h1] at hb; cases hb
end
end Go.Proofs.Ytcniobplligpoaa
