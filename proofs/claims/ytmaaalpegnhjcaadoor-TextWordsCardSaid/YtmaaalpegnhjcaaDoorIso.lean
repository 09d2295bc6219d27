/- Calls from what names nothing of the heap to what names nothing of the heap: run on an empty heap; what they return stays. No program in sight. -/
import Derived.Test.YtmaaalpegnhjcaaDoorRun
namespace Go.Proofs.YtmaaalpegnhjcaaDoor.Ev
open Go
set_option linter.unusedVariables false
/-! ### a value as it stays -/
noncomputable def frzL (f : SV → Option SV) (l : List SV) : Option (List SV) :=
  List.rec (motive := fun _ => Option (List SV)) (some []) (fun a _ ih => ob (f a) (fun x => ob ih (fun r => some (x :: r)))) l
/-- so many rows of so many cells -/
noncomputable def rowsOf (sz : Nat) (n : Nat) : List SV → Option (List (List SV)) :=
  Nat.rec (motive := fun _ => List SV → Option (List (List SV))) (fun _ => some []) (fun _ ih l => ob (ltake sz l) (fun a => ob (ih (ldrop sz l)) (fun r => some (a :: r)))) n
/-- k: may constants stay in it? -/
noncomputable def frzS (k : Bool) (h : Hp) (d : Nat) : SV → Option SV :=
  Nat.rec (motive := fun _ => SV → Option SV) (fun _ => none)
    (fun _ ih x => SV.casesOn (motive_1 := fun _ => Option SV) x (fun b => some (.bool b)) (fun k n => some (.int k n)) (fun e => some (.sym e)) (fun _ _ => none) (some .nilPtr)
      (fun b off len _ _ sz => Nat.casesOn (motive := fun _ => Option SV) len (some (.lst [])) (fun _ => ob (rd h b off (Nat.mul len sz)) (fun cs => ob (frzL ih cs) (fun cs => ob (rowsOf sz len cs) (fun rows => some (.lst rows))))))
      (some .nilSlice) (fun _ _ => none) (some .nilFunc) (some .nilMap) (fun _ => none) (fun l => some (.str l)) (fun rows => Bool.rec (motive := fun _ => Option SV) (List.casesOn (motive := fun _ => Option SV) rows (some (.lst [])) (fun _ _ => none)) (some (.lst rows)) k) (fun _ => none) (some (.lst [])) (fun _ => none)) d
noncomputable def frzT (f : SV → Option SV) (l : List (Bool × List SV)) : Option (List (Bool × List SV)) :=
  List.rec (motive := fun _ => Option (List (Bool × List SV))) (some []) (fun p _ ih => ob (frzL f p.2) (fun x => ob ih (fun r => some ((p.1, x) :: r)))) l
noncomputable def frzA (k : Bool) (h : Hp) (d : Nat) (v : AV) : Option AV :=
  AV.casesOn (motive := fun _ => Option AV) v (fun x => ob (frzS k h d x) (fun y => some (.s y))) (fun l => ob (frzL (frzS k h d) l) (fun y => some (.agg y))) (fun l => ob (frzT (frzS k h d) l) (fun y => some (.tup y))) none none
noncomputable def grdA (v : AV) : Bool := AV.casesOn (motive := fun _ => Bool) v grd grds (fun _ => false) false false
noncomputable def grdAs (l : List AV) : Bool := List.rec (motive := fun _ => Bool) true (fun a _ ih => oif (grdA a) ih false) l
section
variable {P : Program} {T : Tr TI} {A : Nat → Int} {F : Fns} {φ : Phi} {h h' : Hp} {w w' : World}
theorem frzL_all {f : SV → Option SV} : ∀ {l r : List SV}, frzL f l = some r → r.length = l.length ∧ ∀ (i : Nat) (y : SV), r[i]? = some y → ∃ x, l[i]? = some x ∧ f x = some y
  | [], r, h => by cases h; exact ⟨rfl, fun i y hy => by simp at hy⟩
  | a :: l, r, h => by
    obtain ⟨x, h1, h2⟩ := ob_some.1 (show ob (f a) (fun x => ob (frzL f l) (fun r => some (x :: r))) = some r from h)
    obtain ⟨r', h3, h4⟩ := ob_some.1 h2
    cases h4
    obtain ⟨h5, h6⟩ := frzL_all h3
    refine ⟨by simp [h5], fun i y hy => ?_⟩
    cases i with
    | zero => simp at hy; subst hy; exact ⟨a, rfl, h1⟩
    | succ i => simpa using h6 i y (by simpa using hy)
theorem rowsOf_all {sz : Nat} : ∀ {n : Nat} {l : List SV} {rows : List (List SV)}, rowsOf sz n l = some rows → rows.length = n ∧ (∀ (i : Nat) (row : List SV), rows[i]? = some row → row.length = sz) ∧ ∀ (i j : Nat) (row : List SV) (x : SV), rows[i]? = some row → row[j]? = some x → l[i * sz + j]? = some x
  | 0, l, rows, h => by cases h; exact ⟨rfl, fun i row hr => by simp at hr, fun i j row x hr => by simp at hr⟩
  | n + 1, l, rows, h => by
    obtain ⟨a, h1, h2⟩ := ob_some.1 (show ob (ltake sz l) (fun a => ob (rowsOf sz n (ldrop sz l)) (fun r => some (a :: r))) = some rows from h)
    obtain ⟨r, h3, h4⟩ := ob_some.1 h2
    cases h4
    obtain ⟨h5, rfl⟩ := (ltake_some _).1 h1
    rw [ldrop_eq] at h3
    obtain ⟨h6, h7, h8⟩ := rowsOf_all h3
    refine ⟨by simp [h6], fun i row hr => ?_, fun i j row x hr hx => ?_⟩
    · cases i with
      | zero => simp at hr; subst hr; simp; omega
      | succ i => exact h7 i row (by simpa using hr)
    · cases i with
      | zero =>
        simp only [List.getElem?_cons_zero, Option.some.injEq] at hr
        subst hr
        rw [List.getElem?_take] at hx
        split at hx
        · rw [Nat.zero_mul, Nat.zero_add]; exact hx
        · cases hx
      | succ i =>
        have := h8 i j row x (by simpa using hr) hx
        rw [List.getElem?_drop] at this
        rw [Nat.succ_mul, ← this]
        congr 1
        omega
/-- what a value is once nobody writes its cells any more -/
theorem frzS_sound {k : Bool} (r : Rel A φ h w) {K : Nat → Option (Array Value)} (hK : k = true → ∀ b cs, φ.k b = some cs → K b = some cs) (hn : ∀ n L c ty, (h.get n).isSome = true → φ n = some L → w.heap[L.b]? = some (.cells c ty (0, 0)) → K L.b = some c) :
    ∀ (d : Nat) (x y : SV) (v : Value), frzS k h d x = some y → cS A φ x v → cD A K y v
  | 0, x, y, v, hf, _ => by cases hf
  | d + 1, x, y, v, hf, hc => by
    cases x with
    | bool b => cases hf; cases hc; exact .bool b
    | int k n => cases hf; cases hc; exact .int k n
    | sym e => cases hf; cases hc; exact .sym e
    | nilPtr => cases hf; cases hc; exact .nilPtr
    | nilSlice => cases hf; cases hc; exact .nilSlice
    | nilFunc => cases hf; cases hc; exact .nilFunc
    | nilMap => cases hf; cases hc; exact .nilMap
    | str l => cases hf; cases hc; exact .str l
    | lst rows =>
      cases k with
      | true => cases hf; exact cD.mono (hK rfl) hc
      | false =>
        cases rows with
        | cons a r => cases hf
        | nil =>
          cases hf
          obtain ⟨ad, cap, rfl, _⟩ := lst_view (show cD A φ.k (.lst []) v from hc)
          exact .lst0 ad cap
    | emp => cases hf; obtain ⟨ad, rfl⟩ := hc; exact .lst0 ad 0
    | slice b off len mc ex sz =>
      obtain ⟨L, ad, cap, q1, rfl, q2, q3, q4, q5⟩ := hc
      cases len with
      | zero => cases hf; exact .lst0 ad cap
      | succ len =>
        obtain ⟨cs, hrd, h1⟩ := ob_some.1 (show ob (rd h b off (Nat.mul (len + 1) sz)) (fun cs => ob (frzL (frzS k h d) cs) (fun cs => ob (rowsOf sz (len + 1) cs) (fun rows => some (.lst rows)))) = some y from hf)
        obtain ⟨cs', hfz, h2⟩ := ob_some.1 h1
        obtain ⟨rows, hrows, h3⟩ := ob_some.1 h2
        cases h3
        obtain ⟨cs0, ty, hg, rfl, hl⟩ := rd_some hrd
        obtain ⟨L', c, e1, e2, e3, e4, e5⟩ := r.blk b _ hg
        rw [q1] at e1
        cases e1
        obtain ⟨g1, g2, g3⟩ := rowsOf_all hrows
        obtain ⟨f1, f2⟩ := frzL_all hfz
        have had : ad = ⟨L.b, L.o + off, none⟩ := by
          rcases q5 with ⟨h, _⟩ | h
          · exact h
          · omega
        subst had
        have key : ∀ (i j : Nat), ∃ u, ∀ (row : List SV) (x : SV), rows[i]? = some row → row[j]? = some x → c[L.o + off + i * sz + j]? = some u ∧ cD A K x u := fun i j => by
          cases hr : rows[i]? with
          | none => exact ⟨undef, fun _ _ h => by cases h⟩
          | some row =>
            cases hx : row[j]? with
            | none => exact ⟨undef, fun row' x h h' => by cases h; rw [hx] at h'; cases h'⟩
            | some x =>
              have h4 := g3 i j row x hr hx
              obtain ⟨x0, h5, h6⟩ := f2 _ _ h4
              rw [List.getElem?_take] at h5
              split at h5
              · rw [List.getElem?_drop] at h5
                obtain ⟨u, h7, h8⟩ := e5 _ _ h5
                refine ⟨u, fun row' x' h h' => ?_⟩
                cases h
                rw [hx] at h'
                cases h'
                exact ⟨by rw [← h7]; congr 1; omega, frzS_sound r hK hn d x0 x u h6 h8⟩
              · cases h5
        rw [← g1]
        refine .lst rows L.b (L.o + off) cap sz c (fun i j => Classical.choose (key i j)) (hn b L c ty (by rw [hg]; rfl) q1 e2) (by omega) g2 (fun i j row x hr hx => ?_) (fun i j row x hr hx => ?_)
        · exact (Classical.choose_spec (key i j) row x hr hx).1
        · exact (Classical.choose_spec (key i j) row x hr hx).2
    | _ => cases hf
theorem frzL_sound {f : SV → Option SV} {R : SV → Value → Prop} {S : SV → Value → Prop} (hf : ∀ x y v, f x = some y → S x v → R y v) : ∀ {l r : List SV} {vs : List Value}, frzL f l = some r → All2 S l vs → All2 R r vs
  | [], r, vs, h, ha => by cases h; cases ha; exact .nil
  | a :: l, r, vs, h, ha => by
    obtain ⟨x, h1, h2⟩ := ob_some.1 (show ob (f a) (fun x => ob (frzL f l) (fun r => some (x :: r))) = some r from h)
    obtain ⟨r', h3, h4⟩ := ob_some.1 h2
    cases h4
    cases ha with
    | cons h5 h6 => exact .cons (hf _ _ _ h1 h5) (frzL_sound hf h3 h6)
theorem frzA_sound {k : Bool} (r : Rel A φ h w) {ψ : Phi} (hK : k = true → ∀ b cs, φ.k b = some cs → ψ.k b = some cs) (hn : ∀ n L c ty, (h.get n).isSome = true → φ n = some L → w.heap[L.b]? = some (.cells c ty (0, 0)) → ψ.k L.b = some c)
    {d : Nat} {x y : AV} {v : Value} (hf : frzA k h d x = some y) (hc : cV A φ x v) : cV A ψ y v := by
  have one : ∀ x y v, frzS k h d x = some y → cS A φ x v → cS A ψ y v := fun x y v h1 h2 => (frzS_sound r hK hn d x y v h1 h2).toS
  cases x with
  | s x =>
    obtain ⟨y', h1, h2⟩ := ob_some.1 (show ob (frzS k h d x) (fun y => some (AV.s y)) = some y from hf)
    cases h2
    exact one _ _ _ h1 hc
  | agg l =>
    obtain ⟨y', h1, h2⟩ := ob_some.1 (show ob (frzL (frzS k h d) l) (fun y => some (AV.agg y)) = some y from hf)
    cases h2
    obtain ⟨vs, rfl, ha⟩ := hc
    exact ⟨vs, rfl, frzL_sound one h1 ha⟩
  | tup l =>
    obtain ⟨y', h1, h2⟩ := ob_some.1 (show ob (frzT (frzS k h d) l) (fun y => some (AV.tup y)) = some y from hf)
    cases h2
    obtain ⟨vs, rfl, ha⟩ := hc
    refine ⟨vs, rfl, ?_⟩
    clear hf
    induction ha generalizing y' with
    | nil => cases h1; exact .nil
    | @cons p x l vs hp _ ih =>
      obtain ⟨q, h3, h4⟩ := ob_some.1 (show ob (frzL (frzS k h d) p.2) (fun x => ob (frzT (frzS k h d) l) (fun r => some ((p.1, x) :: r))) = some y' from h1)
      obtain ⟨r', h5, h6⟩ := ob_some.1 h4
      cases h6
      refine .cons ?_ (ih _ h5)
      unfold cV1 at hp ⊢
      simp only
      split
      · rename_i hb
        rw [if_pos hb] at hp
        obtain ⟨vs, rfl, ha⟩ := hp
        exact ⟨vs, rfl, frzL_sound one h3 ha⟩
      · rename_i hb
        rw [if_neg hb] at hp
        obtain ⟨z, hz, hcz⟩ := hp
        rw [hz] at h3
        obtain ⟨z', h7, h8⟩ := ob_some.1 (show ob (frzS k h d z) (fun x => ob (some []) (fun r => some (x :: r))) = some q from h3)
        cases h8
        exact ⟨z', rfl, one _ _ _ h7 hcz⟩
  | _ => cases hf
theorem grds_list {l : List SV} {vs : List Value} (hg : grds l = true) (ha : All2 (cS A φ) l vs) {ψ : Phi} (hk : ψ.k = φ.k) : All2 (cS A ψ) l vs := by
  induction ha with
  | nil => exact .nil
  | @cons a b l r hab _ ih =>
    have h1 := grds_all hg a (by simp)
    have h2 : grds l = true := by
      have h' : oif (grd a) (grds l) false = true := hg
      rw [h1] at h'; exact h'
    refine .cons ?_ (ih h2)
    have d := cS.toD hab h1
    rw [← hk] at d
    exact d.toS
theorem grdA_cV {x : AV} {v : Value} (hg : grdA x = true) (hc : cV A φ x v) {ψ : Phi} (hk : ψ.k = φ.k) : cV A ψ x v := by
  cases x with
  | s x =>
    have d := cS.toD (show cS A φ x v from hc) hg
    rw [← hk] at d
    exact d.toS
  | agg l =>
    obtain ⟨vs, rfl, ha⟩ := hc
    exact ⟨vs, rfl, grds_list hg ha hk⟩
  | _ => cases hg
theorem grdAs_all : ∀ {l : List AV} {vs : List Value}, grdAs l = true → All2 (cV A φ) l vs → ∀ {ψ : Phi}, ψ.k = φ.k → All2 (cV A ψ) l vs
  | [], vs, _, ha, ψ, _ => by cases ha; exact .nil
  | a :: l, vs, hg, ha, ψ, hk => by
    cases ha with
    | cons h1 h2 =>
      have h' : oif (grdA a) (grdAs l) false = true := hg
      rw [oif_if] at h'
      split at h'
      · rename_i h3
        exact .cons (grdA_cV h3 h1 hk) (grdAs_all h' h2 hk)
      · cases h'
/-- cells of new blocks stay -/
noncomputable def newCon (k : Nat → Option (Array Value)) (n : Nat) (w : World) : Nat → Option (Array Value) := fun b => if b < n then k b else match w.heap[b]? with
  | some (.cells cs _ _) => some cs
  | _ => none
theorem newCon_old {k : Nat → Option (Array Value)} {n b : Nat} (hb : b < n) : newCon k n w b = k b := if_pos hb
theorem newCon_some {k : Nat → Option (Array Value)} {n b : Nat} {cs : Array Value} (e : newCon k n w b = some cs) : (b < n ∧ k b = some cs) ∨ (n ≤ b ∧ ∃ ty : TypeId × Nat × Nat, w.heap[b]? = some (.cells cs ty.1 ty.2)) := by
  unfold newCon at e
  split at e
  · rename_i h1; exact .inl ⟨h1, e⟩
  · rename_i h1
    split at e
    · rename_i cs' ty fr h2
      cases e
      exact .inr ⟨by omega, (ty, fr), h2⟩
    · cases e
theorem newCon_new {k : Nat → Option (Array Value)} {n b : Nat} {cs : Array Value} {ty : TypeId} {fr : Nat × Nat} (hb : n ≤ b) (e : w.heap[b]? = some (.cells cs ty fr)) : newCon k n w b = some cs := by
  unfold newCon
  rw [if_neg (by omega), e]
/-- a call apart from the heap -/
theorem iso_calls (env : Env P A T F) {n : Nat} {f : FuncId} {vs : List AV} {v : AV} {hi : Hp} (hr : runFn F n f vs h0 = some (v, hi)) {d : Nat} {u : AV} (hf : frzA true hi d v = some u) (hg : grdAs vs = true) (rel : Rel A φ h w) (args : Array Value) (ha : All2 (cV A φ) vs args.toList) :
    Calls P f args w (fun e w' => ∃ rv φ', e = .returned rv ∧ Step (fun n => h.lo ≤ n) φ φ' h h w w' ∧ Rel A φ' h w' ∧ cV A φ' u rv) := by
  have hk : ConOk φ.k w := rel.con
  haveI := φ.g
  refine Calls.mono (run_step env hr hk args (grdAs_all hg ha rfl)) ?_
  rintro e w' ⟨rv, φi, rfl, s, r, hcv⟩
  have old : ∀ b, b < w.heap.size → w'.heap[b]? = w.heap[b]? := fun b hb => s.old b hb (fun n l h _ => h.elim)
  have hlt : ∀ b cs, φ.k b = some cs → b < w.heap.size := fun b cs e => rel.conLt e
  have hkle : ∀ b cs, φ.k b = some cs → newCon φ.k w.heap.size w' b = some cs := fun b cs e => by rw [newCon_old (hlt b cs e)]; exact e
  have hKi : ∀ b cs, φi.k b = some cs → newCon φ.k w.heap.size w' b = some cs := fun b cs e => by
    rcases Nat.lt_or_ge b w.heap.size with h1 | h1
    · rw [newCon_old h1]
      rcases s.knew b cs e with h2 | h2
      · exact h2
      · omega
    · obtain ⟨ty, h2⟩ := r.con b cs e
      exact newCon_new h1 h2
  have hle : φ.le ⟨φ.m, newCon φ.k w.heap.size w', φ.g.mono hkle⟩ := ⟨fun _ _ e => e, hkle⟩
  refine ⟨rv, ⟨φ.m, newCon φ.k w.heap.size w', φ.g.mono hkle⟩, rfl, ⟨Abs.refl _ rel.wf, fun _ _ => rfl, hkle, fun b cs e => ?_, s.os, s.tape, s.output, s.size, fun b hb _ => old b hb, fun n L hn _ hL => ?_⟩, ⟨rel.wf, rel.dom, fun n x hx => ?_, rel.inj, fun b cs e => ?_, fun n L hn hL => ?_⟩, ?_⟩
  · rcases newCon_some e with ⟨_, h1⟩ | ⟨h1, _⟩
    · exact .inl h1
    · exact .inr h1
  · rw [show (⟨φ.m, newCon φ.k w.heap.size w', φ.g.mono hkle⟩ : Phi) n = φ n from rfl, rel.dom n hn] at hL; cases hL
  · refine ((rel.blk n x hx).mono hle).world (fun L hL => old _ ?_)
    obtain ⟨L', hL', hb⟩ := (rel.blk n x hx).some_loc
    have e : L' = L := Option.some.inj (hL'.symm.trans hL)
    rw [← e]; exact hb
  · rcases newCon_some e with ⟨h1, h2⟩ | ⟨_, h2⟩
    · obtain ⟨ty, h3⟩ := rel.con b cs h2
      exact ⟨ty, by rw [old b h1]; exact h3⟩
    · exact h2
  · obtain ⟨L', hL', hb⟩ := rel.loc hn
    have e : L' = L := Option.some.inj (hL'.symm.trans hL)
    subst e
    show newCon φ.k w.heap.size w' L'.b = none
    rw [newCon_old hb]
    exact rel.sep n L' hn hL'
  · refine frzA_sound r (ψ := ⟨φ.m, newCon φ.k w.heap.size w', φ.g.mono hkle⟩) (fun _ => hKi) (fun n L c ty hn hL hc => ?_) hf hcv
    have h1 : h0.next ≤ n := by
      have := Hp.get_isSome hn
      exact WF.one this.2
    rcases s.new n L h1 hn hL with h2 | ⟨_, _, h2, _⟩
    · exact newCon_new h2 hc
    · exact h2.elim
end
section
variable {P : Program} {T : Tr TI} {A : Nat → Int} {F : Fns} {φ : Phi} {h h' : Hp} {w w' : World}
/-- arguments as they stay during a call -/
noncomputable def frzAs (k : Bool) (h : Hp) (d : Nat) (l : List AV) : Option (List AV) :=
  List.rec (motive := fun _ => Option (List AV)) (some []) (fun a _ ih => ob (frzA k h d a) (fun x => ob ih (fun r => some (x :: r)))) l
theorem frzAs_sound {k : Bool} (r : Rel A φ h w) {ψ : Phi} (hK : k = true → ∀ b cs, φ.k b = some cs → ψ.k b = some cs) (hn : ∀ n L c ty, (h.get n).isSome = true → φ n = some L → w.heap[L.b]? = some (.cells c ty (0, 0)) → ψ.k L.b = some c)
    {d : Nat} : ∀ {l us : List AV} {vs : List Value}, frzAs k h d l = some us → All2 (cV A φ) l vs → All2 (cV A ψ) us vs
  | [], us, vs, hf, ha => by cases hf; cases ha; exact .nil
  | a :: l, us, vs, hf, ha => by
    obtain ⟨x, h1, h2⟩ := ob_some.1 (show ob (frzA k h d a) (fun x => ob (frzAs k h d l) (fun r => some (x :: r))) = some us from hf)
    obtain ⟨r', h3, h4⟩ := ob_some.1 h2
    cases h4
    cases ha with
    | cons h5 h6 => exact .cons (frzA_sound r hK hn h1 h5) (frzAs_sound r hK hn h3 h6)
/-- a call to which its arguments stay as they are while it runs -/
theorem stay_calls (env : Env P A T F) {n : Nat} {f : FuncId} {vs us : List AV} {v : AV} {hi : Hp} {d d' : Nat} (hz : frzAs true h d vs = some us) (hr : runFn F n f us h0 = some (v, hi)) {u : AV} (hf : frzA false hi d' v = some u) (rel : Rel A φ h w) (args : Array Value) (ha : All2 (cV A φ) vs args.toList) :
    Calls P f args w (fun e w' => ∃ rv φ', e = .returned rv ∧ Step (fun n => h.lo ≤ n) φ φ' h h w w' ∧ Rel A φ' h w' ∧ cV A φ' u rv) := by
  have hk : ConOk (newCon φ.k 0 w) w := fun b cs e => by
    rcases newCon_some e with ⟨h1, _⟩ | ⟨_, h1⟩
    · omega
    · exact h1
  have hKφ : ∀ b cs, φ.k b = some cs → newCon φ.k 0 w b = some cs := fun b cs e => by
    obtain ⟨ty, h1⟩ := rel.con b cs e
    exact newCon_new (Nat.zero_le _) h1
  haveI : GK (newCon φ.k 0 w) := φ.g.mono hKφ
  have hus : All2 (cV A (kPhi (newCon φ.k 0 w))) us args.toList := frzAs_sound rel (ψ := kPhi (newCon φ.k 0 w)) (fun _ => hKφ) (fun n L c ty hn hL hc => newCon_new (k := φ.k) (Nat.zero_le _) hc) hz ha
  refine Calls.mono (run_step env hr hk args hus) ?_
  rintro e w' ⟨rv, φi, rfl, s, r, hcv⟩
  have old : ∀ b, b < w.heap.size → w'.heap[b]? = w.heap[b]? := fun b hb => s.old b hb (fun n l h _ => h.elim)
  have hlt : ∀ b cs, φ.k b = some cs → b < w.heap.size := fun b cs e => rel.conLt e
  have hkle : ∀ b cs, φ.k b = some cs → newCon φ.k w.heap.size w' b = some cs := fun b cs e => by rw [newCon_old (hlt b cs e)]; exact e
  have hle : φ.le ⟨φ.m, newCon φ.k w.heap.size w', φ.g.mono hkle⟩ := ⟨fun _ _ e => e, hkle⟩
  refine ⟨rv, ⟨φ.m, newCon φ.k w.heap.size w', φ.g.mono hkle⟩, rfl, ⟨Abs.refl _ rel.wf, fun _ _ => rfl, hkle, fun b cs e => ?_, s.os, s.tape, s.output, s.size, fun b hb _ => old b hb, fun n L hn _ hL => ?_⟩, ⟨rel.wf, rel.dom, fun n x hx => ?_, rel.inj, fun b cs e => ?_, fun n L hn hL => ?_⟩, ?_⟩
  · rcases newCon_some e with ⟨_, h1⟩ | ⟨h1, _⟩
    · exact .inl h1
    · exact .inr h1
  · rw [show (⟨φ.m, newCon φ.k w.heap.size w', φ.g.mono hkle⟩ : Phi) n = φ n from rfl, rel.dom n hn] at hL; cases hL
  · refine ((rel.blk n x hx).mono hle).world (fun L hL => old _ ?_)
    obtain ⟨L', hL', hb⟩ := (rel.blk n x hx).some_loc
    have e : L' = L := Option.some.inj (hL'.symm.trans hL)
    rw [← e]; exact hb
  · rcases newCon_some e with ⟨h1, h2⟩ | ⟨_, h2⟩
    · obtain ⟨ty, h3⟩ := rel.con b cs h2
      exact ⟨ty, by rw [old b h1]; exact h3⟩
    · exact h2
  · obtain ⟨L', hL', hb⟩ := rel.loc hn
    have e : L' = L := Option.some.inj (hL'.symm.trans hL)
    subst e
    show newCon φ.k w.heap.size w' L'.b = none
    rw [newCon_old hb]
    exact rel.sep n L' hn hL'
  · refine frzA_sound r (ψ := ⟨φ.m, newCon φ.k w.heap.size w', φ.g.mono hkle⟩) (fun e => by cases e) (fun n L c ty hn hL hc => ?_) hf hcv
    have h1 : h0.next ≤ n := by
      have := Hp.get_isSome hn
      exact WF.one this.2
    rcases s.new n L h1 hn hL with h2 | ⟨_, _, h2, _⟩
    · exact newCon_new h2 hc
    · exact h2.elim
end
/-! ### a table of calls -/
/-- are two values alike? so many steps deep -/
noncomputable def eqL {α : Type} (f : α → α → Bool) (l : List α) : List α → Bool :=
  List.rec (motive := fun _ => List α → Bool) (fun r => List.casesOn (motive := fun _ => Bool) r true (fun _ _ => false)) (fun a _ ih r => List.casesOn (motive := fun _ => Bool) r false (fun b r' => oif (f a b) (ih r') false)) l
theorem eqL_sound {α : Type} {f : α → α → Bool} (hf : ∀ a b, f a b = true → a = b) : ∀ {l r : List α}, eqL f l r = true → l = r
  | [], [], _ => rfl
  | [], _ :: _, h => by cases h
  | _ :: _, [], h => by cases h
  | a :: l, b :: r, h => by
    have h' : oif (f a b) (eqL f l r) false = true := h
    rw [oif_if] at h'
    split at h'
    · rename_i h1
      rw [hf a b h1, eqL_sound hf h']
    · cases h'
noncomputable def beq2 (a b : Bool) : Bool := oif a b (bnot b)
theorem beq2_sound {a b : Bool} (h : beq2 a b = true) : a = b := by cases a <;> cases b <;> first | rfl | cases h
theorem u8_sound (a b : UInt8) (h : Nat.beq (UInt8.toNat a) (UInt8.toNat b) = true) : a = b := by
  rw [nbeq] at h
  exact UInt8.toNat_inj.1 h
noncomputable def eqS (d : Nat) : SV → SV → Bool :=
  Nat.rec (motive := fun _ => SV → SV → Bool) (fun _ _ => false)
    (fun _ ih x y => SV.casesOn (motive_1 := fun _ => Bool) x
      (fun b => SV.casesOn (motive_1 := fun _ => Bool) y (fun c => beq2 b c) (fun _ _ => false) (fun _ => false) (fun _ _ => false) false (fun _ _ _ _ _ _ => false) false (fun _ _ => false) false false (fun _ => false) (fun _ => false) (fun _ => false) (fun _ => false) false (fun _ => false))
      (fun k m => SV.casesOn (motive_1 := fun _ => Bool) y (fun _ => false) (fun q n => oif (Nat.beq (ikn k) (ikn q)) (ieq m n) false) (fun _ => false) (fun _ _ => false) false (fun _ _ _ _ _ _ => false) false (fun _ _ => false) false false (fun _ => false) (fun _ => false) (fun _ => false) (fun _ => false) false (fun _ => false))
      (fun e => SV.casesOn (motive_1 := fun _ => Bool) y (fun _ => false) (fun _ _ => false) (fun g => sxEq e g) (fun _ _ => false) false (fun _ _ _ _ _ _ => false) false (fun _ _ => false) false false (fun _ => false) (fun _ => false) (fun _ => false) (fun _ => false) false (fun _ => false))
      (fun _ _ => false)
      (SV.casesOn (motive_1 := fun _ => Bool) y (fun _ => false) (fun _ _ => false) (fun _ => false) (fun _ _ => false) true (fun _ _ _ _ _ _ => false) false (fun _ _ => false) false false (fun _ => false) (fun _ => false) (fun _ => false) (fun _ => false) false (fun _ => false))
      (fun _ _ _ _ _ _ => false)
      (SV.casesOn (motive_1 := fun _ => Bool) y (fun _ => false) (fun _ _ => false) (fun _ => false) (fun _ _ => false) false (fun _ _ _ _ _ _ => false) true (fun _ _ => false) false false (fun _ => false) (fun _ => false) (fun _ => false) (fun _ => false) false (fun _ => false))
      (fun _ _ => false)
      (SV.casesOn (motive_1 := fun _ => Bool) y (fun _ => false) (fun _ _ => false) (fun _ => false) (fun _ _ => false) false (fun _ _ _ _ _ _ => false) false (fun _ _ => false) true false (fun _ => false) (fun _ => false) (fun _ => false) (fun _ => false) false (fun _ => false))
      (SV.casesOn (motive_1 := fun _ => Bool) y (fun _ => false) (fun _ _ => false) (fun _ => false) (fun _ _ => false) false (fun _ _ _ _ _ _ => false) false (fun _ _ => false) false true (fun _ => false) (fun _ => false) (fun _ => false) (fun _ => false) false (fun _ => false))
      (fun _ => false)
      (fun l => SV.casesOn (motive_1 := fun _ => Bool) y (fun _ => false) (fun _ _ => false) (fun _ => false) (fun _ _ => false) false (fun _ _ _ _ _ _ => false) false (fun _ _ => false) false false (fun _ => false) (fun r => eqL (fun a b => Nat.beq (UInt8.toNat a) (UInt8.toNat b)) l r) (fun _ => false) (fun _ => false) false (fun _ => false))
      (fun l => SV.casesOn (motive_1 := fun _ => Bool) y (fun _ => false) (fun _ _ => false) (fun _ => false) (fun _ _ => false) false (fun _ _ _ _ _ _ => false) false (fun _ _ => false) false false (fun _ => false) (fun _ => false) (fun r => eqL (eqL ih) l r) (fun _ => false) false (fun _ => false))
      (fun _ => false) false (fun _ => false)) d
theorem eqS_sound : ∀ (d : Nat) (x y : SV), eqS d x y = true → x = y
  | 0, x, y, h => by cases h
  | d + 1, x, y, h => by
    cases x with
    | bool b => cases y with
      | bool c => exact congrArg _ (beq2_sound h)
      | _ => cases h
    | int k m => cases y with
      | int q n =>
        have h' : oif (Nat.beq (ikn k) (ikn q)) (ieq m n) false = true := h
        rw [oif_if] at h'
        split at h'
        · rename_i h1
          rw [ieq_iff] at h'
          rw [ikn_inj h1, of_decide_eq_true h']
        · cases h'
      | _ => cases h
    | sym e => cases y with
      | sym g => exact congrArg _ (sxEq_sound _ _ h)
      | _ => cases h
    | nilPtr => cases y with
      | nilPtr => rfl
      | _ => cases h
    | nilSlice => cases y with
      | nilSlice => rfl
      | _ => cases h
    | nilFunc => cases y with
      | nilFunc => rfl
      | _ => cases h
    | nilMap => cases y with
      | nilMap => rfl
      | _ => cases h
    | str l => cases y with
      | str r => exact congrArg _ (eqL_sound u8_sound h)
      | _ => cases h
    | lst l => cases y with
      | lst r => exact congrArg _ (eqL_sound (fun a b hab => eqL_sound (eqS_sound d) hab) h)
      | _ => cases h
    | _ => cases h
noncomputable def eqP (p q : Bool × List SV) : Bool := oif (beq2 p.1 q.1) (eqL (eqS 9) p.2 q.2) false
theorem eqP_sound (p q : Bool × List SV) (h : eqP p q = true) : p = q := by
  have h' : oif (beq2 p.1 q.1) (eqL (eqS 9) p.2 q.2) false = true := h
  rw [oif_if] at h'
  split at h'
  · rename_i h1
    exact Prod.ext (beq2_sound h1) (eqL_sound (eqS_sound 9) h')
  · cases h'
noncomputable def eqA (x y : AV) : Bool :=
  AV.casesOn (motive := fun _ => Bool) x
    (fun a => AV.casesOn (motive := fun _ => Bool) y (fun b => eqS 9 a b) (fun _ => false) (fun _ => false) false false)
    (fun a => AV.casesOn (motive := fun _ => Bool) y (fun _ => false) (fun b => eqL (eqS 9) a b) (fun _ => false) false false)
    (fun a => AV.casesOn (motive := fun _ => Bool) y (fun _ => false) (fun _ => false) (fun b => eqL eqP a b) false false) false false
theorem eqA_sound (x y : AV) (h : eqA x y = true) : x = y := by
  cases x with
  | s a => cases y with
    | s b => exact congrArg _ (eqS_sound 9 a b h)
    | _ => cases h
  | agg a => cases y with
    | agg b => exact congrArg _ (eqL_sound (eqS_sound 9) h)
    | _ => cases h
  | tup a => cases y with
    | tup b => exact congrArg _ (eqL_sound eqP_sound h)
    | _ => cases h
  | _ => cases h
/-- a call that has been run apart from the heap: its function, its arguments, its answer -/
structure Row where
  f : FuncId
  us : List AV
  u : AV
noncomputable def rowIs (F : Fns) (n : Nat) (e : Row) : Prop := ob (runFn F n e.f e.us h0) (fun p => frzA false p.2 9 p.1) = some e.u
noncomputable def rowB (F : Fns) (n : Nat) (e : Row) : Bool := Option.rec (motive := fun _ => Bool) false (fun u => eqA u e.u) (ob (runFn F n e.f e.us h0) (fun p => frzA false p.2 9 p.1))
theorem rowB_is {F : Fns} {n : Nat} {e : Row} (h : rowB F n e = true) : rowIs F n e := by
  unfold rowB at h
  unfold rowIs
  cases hr : ob (runFn F n e.f e.us h0) (fun p => frzA false p.2 9 p.1) with
  | none => rw [hr] at h; cases h
  | some u => rw [hr] at h; rw [eqA_sound _ _ h]
def allR (F : Fns) (n : Nat) : List Row → Prop
  | [] => True
  | e :: l => rowB F n e = true ∧ allR F n l
theorem allR_is {F : Fns} {n : Nat} : ∀ {l : List Row}, allR F n l → ∀ e ∈ l, rowIs F n e
  | [], _, e, he => by simp at he
  | a :: l, h, e, he => by
    rcases List.mem_cons.1 he with rfl | h1
    · exact rowB_is h.1
    · exact allR_is h.2 e h1
theorem allR_app {F : Fns} {n : Nat} : ∀ {l r : List Row}, allR F n l → allR F n r → allR F n (l ++ r)
  | [], _, _, h => h
  | _ :: _, _, h, h' => ⟨h.1, allR_app h.2 h'⟩
noncomputable def hasF (f : FuncId) (l : List Row) : Bool := List.rec (motive := fun _ => Bool) false (fun e _ ih => oif (Nat.beq e.f f) true ih) l
noncomputable def findR (f : FuncId) (us : List AV) (l : List Row) : Option AV := List.rec (motive := fun _ => Option AV) none (fun e _ ih => oif (Nat.beq e.f f) (oif (eqL eqA e.us us) (some e.u) ih) ih) l
theorem findR_some {f : FuncId} {us : List AV} {u : AV} : ∀ {l : List Row}, findR f us l = some u → ∃ e ∈ l, e.f = f ∧ e.us = us ∧ e.u = u
  | [], h => by cases h
  | e :: l, h => by
    have h' : oif (Nat.beq e.f f) (oif (eqL eqA e.us us) (some e.u) (findR f us l)) (findR f us l) = some u := h
    have rest : findR f us l = some u → ∃ e' ∈ e :: l, e'.f = f ∧ e'.us = us ∧ e'.u = u := fun h => by
      obtain ⟨e', h1, h2⟩ := findR_some h
      exact ⟨e', List.mem_cons_of_mem _ h1, h2⟩
    rw [oif_if] at h'
    split at h'
    · rename_i h1
      rw [oif_if] at h'
      split at h'
      · rename_i h2
        exact ⟨e, by simp, Nat.eq_of_beq_eq_true h1, eqL_sound eqA_sound h2, Option.some.inj h'⟩
      · exact rest h'
    · exact rest h'
/-- calls answered by a table -/
noncomputable def tabX (l : List Row) (f : FuncId) (vs : List AV) (h : Hp) : R := oif (hasF f l) (ob (frzAs true h 9 vs) (fun us => ob (findR f us l) (fun u => ok u h))) none
/-- the functions, with a table of calls ahead of what is answered at once -/
noncomputable def withT (l : List Row) (F : Fns) : Fns := Fns.casesOn (motive := fun _ => Fns) F (fun T X => .mk T (fun f vs h => Option.rec (motive := fun _ => R) (X f vs h) (fun r => some r) (tabX l f vs h)))
/-- a row that holds: some run says so -/
def RowOk (P : Program) (T : Tr TI) (e : Row) : Prop := ∀ A, ∃ F n, Env P A T F ∧ rowIs F n e
theorem rowsHold {P : Program} {T : Tr TI} {F : Fns} {n : Nat} (env : ∀ A, Env P A T F) {l : List Row} (h : allR F n l) : ∀ e ∈ l, RowOk P T e := fun e he A => ⟨F, n, env A, allR_is h e he⟩
theorem rowsHold_app {P : Program} {T : Tr TI} {l r : List Row} (h : ∀ e ∈ l, RowOk P T e) (h' : ∀ e ∈ r, RowOk P T e) : ∀ e ∈ lapp l r, RowOk P T e := fun e he => by
  rw [lapp_eq] at he
  rcases List.mem_append.1 he with h1 | h1
  · exact h e h1
  · exact h' e h1
theorem tab_ext {P : Program} {A : Nat → Int} {T : Tr TI} {l : List Row} (hl : ∀ e ∈ l, RowOk P T e) {f : FuncId} {vs : List AV} {h : Hp} {v : AV} {h' : Hp} (hx : tabX l f vs h = some (v, h')) :
    FnOk P f ∧ (WF h → Abs (fun n => h.lo ≤ n) h h') ∧ ∀ φ w (args : Array Value), Rel A φ h w → All2 (cV A φ) vs args.toList →
    Calls P f args w (fun e w' => ∃ rv φ', e = .returned rv ∧ Step (fun n => h.lo ≤ n) φ φ' h h' w w' ∧ Rel A φ' h' w' ∧ cV A φ' v rv) := by
  obtain ⟨_, h1⟩ := oif_some.1 hx
  obtain ⟨us, hz, h2⟩ := ob_some.1 h1
  obtain ⟨u, hu, h3⟩ := ob_some.1 h2
  cases h3
  obtain ⟨e, he, rfl, rfl, rfl⟩ := findR_some hu
  obtain ⟨F, n, env, hrow⟩ := hl e he A
  obtain ⟨p, hr, hf⟩ := ob_some.1 hrow
  exact ⟨(cl_of_sound env (sound_all env n).1 e.f e.us h0 p.1 p.2 hr).1, fun k => Abs.refl _ k, fun φ w args rel ha => stay_calls env hz hr hf rel args ha⟩
/-- the same with a table more -/
theorem withT_env {P : Program} {A : Nat → Int} {T : Tr TI} {F : Fns} (env : Env P A T F) {l : List Row} (hl : ∀ e ∈ l, RowOk P T e) : Env P A T (withT l F) where
  tys := env.tys
  mix := env.mix
  fn := fun f i hf => env.fn f i (by cases F; exact hf)
  ext := fun f vs h v h' hx => by
    cases F with
    | mk T0 X0 =>
    have hx' : Option.rec (motive := fun _ => R) (X0 f vs h) (fun r => some r) (tabX l f vs h) = some (v, h') := hx
    cases ht : tabX l f vs h with
    | none => rw [ht] at hx'; exact env.ext f vs h v h' hx'
    | some r =>
      rw [ht] at hx'
      cases hx'
      exact tab_ext hl ht
/-! ### such calls answered at once -/
/-- some functions' calls apart from the heap, by a run with the functions below -/
noncomputable def iso (pure : FuncId → Bool) (F : Fns) (n : Nat) (f : FuncId) (vs : List AV) (h : Hp) : R :=
  oif (pure f) (oif (grdAs vs) (ob (runFn F n f vs h0) (fun p => ob (frzA true p.2 9 p.1) (fun u => ok u h))) none) none
theorem iso_ext {P : Program} {A : Nat → Int} {T : Tr TI} {F : Fns} (env : Env P A T F) {pure : FuncId → Bool} {n : Nat} {f : FuncId} {vs : List AV} {h : Hp} {v : AV} {h' : Hp} (hx : iso pure F n f vs h = some (v, h')) :
    FnOk P f ∧ (WF h → Abs (fun n => h.lo ≤ n) h h') ∧ ∀ φ w (args : Array Value), Rel A φ h w → All2 (cV A φ) vs args.toList →
    Calls P f args w (fun e w' => ∃ rv φ', e = .returned rv ∧ Step (fun n => h.lo ≤ n) φ φ' h h' w w' ∧ Rel A φ' h' w' ∧ cV A φ' v rv) := by
  obtain ⟨_, h1⟩ := oif_some.1 hx
  obtain ⟨hg, h2⟩ := oif_some.1 h1
  obtain ⟨p, hr, h3⟩ := ob_some.1 h2
  obtain ⟨u, hf, h4⟩ := ob_some.1 h3
  cases h4
  exact ⟨(cl_of_sound env (sound_all env n).1 f vs h0 p.1 p.2 hr).1, fun k => Abs.refl _ k, fun φ w args rel ha => iso_calls env hr hf hg rel args ha⟩
end Go.Proofs.YtmaaalpegnhjcaaDoor.Ev
