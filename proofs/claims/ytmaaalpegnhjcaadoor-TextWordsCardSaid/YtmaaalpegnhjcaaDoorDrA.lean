/- A region that draws its order: what each operation of the interpreter's walk leaves of its heap. No program in sight. -/
import Derived.Test.YtmaaalpegnhjcaaDoorDrT
namespace Go.Proofs.YtmaaalpegnhjcaaDoor.Ev
open Go
set_option linter.unusedVariables false
set_option linter.unusedSimpArgs false
abbrev Tch (E : Nat → Ent) (i n : Nat) : Prop := inHid (ivOf (E i)) n = true
structure DCtx (T : Tr TI) (π : List Nat) (nt : Nat) (ops : Array Oper) (cl : FuncId → List AV → Hp → R) (V : Nat → AV) (H : Nat → Hp) (E : Nat → Ent) (F : Nat → List AV) : Prop where
  opf : ∀ i, i < ops.size → OpF T π nt ops i
  run : ∀ i, i < ops.size → ∃ op g, pO T π nt ops i = .mk (cDst π (dD ops i)) op g ∧ cOp T π (revOf (dD ops) i) (opAt ops i).op = some op ∧ cGuard (revOf (dD ops) i) i (opAt ops i).guard = some g ∧ dstOk nt (dD ops i) = true ∧
    drDo cl (revOf V i) (F i) (revOf E i) (H i) op g (md T π nt ops i) = some (.mk (V i) (H (i + 1)) (E i)) ∧ F (i + 1) = putD (F i) (cDst π (dD ops i)) (V i)
  wf : WF (H 0)
  cla : ClAbs cl
/-- what an operation does in the interpreter's walk -/
inductive Kind (T : Tr TI) (π : List Nat) (nt : Nat) (ops : Array Oper) (cl : FuncId → List AV → Hp → R) (V : Nat → AV) (H : Nat → Hp) (E : Nat → Ent) (F : Nat → List AV) (i : Nat) (op : IOp) : Bool → Prop where
  | skip : V i = .undef → H (i + 1) = H i → E i = .mk [] (some []) → Kind T π nt ops cl V H E F i op false
  | pure (po : PO) : op = .p po → pop (revOf V i) (F i) po = some (V i) → H (i + 1) = H i → E i = .mk [] (some []) → aO T π nt ops i = false → Kind T π nt ops cl V H E F i op true
  | head (js : List Nat) (hid' : List (Nat × Nat)) (h1 : Hp) : md T π nt ops i = some js → sel (revOf E i) js (H i).hid = some hid' → HeadR cl (revOf V i) (F i) (revOf E i) (H i) op js hid' (V i) h1 (E i) → H (i + 1) = .mk h1.next h1.tr (H i).lo (H i).hid → Kind T π nt ops cl V H E F i op true
  | tail : md T π nt ops i = none → aO T π nt ops i = true → iop cl (revOf V i) (F i) (H i) op = some (V i, H (i + 1)) → E i = .mk [] (some []) → Kind T π nt ops cl V H E F i op true
section
variable {T : Tr TI} {π : List Nat} {nt : Nat} {ops : Array Oper} {cl : FuncId → List AV → Hp → R} {V : Nat → AV} {H : Nat → Hp} {E : Nat → Ent} {F : Nat → List AV}
theorem DCtx.kind (c : DCtx T π nt ops cl V H E F) {i : Nat} (hi : i < ops.size) :
    ∃ op g b, pO T π nt ops i = .mk (cDst π (dD ops i)) op g ∧ cOp T π (revOf (dD ops) i) (opAt ops i).op = some op ∧ cGuard (revOf (dD ops) i) i (opAt ops i).guard = some g ∧ dstOk nt (dD ops i) = true ∧ goes (revOf V i) g = some b ∧ Kind T π nt ops cl V H E F i op b ∧ F (i + 1) = putD (F i) (cDst π (dD ops i)) (V i) := by
  obtain ⟨op, g, h1, h2, h3, h4, h5, h6⟩ := c.run i hi
  obtain ⟨b, hb, h7⟩ := ob_some.1 h5
  refine ⟨op, g, b, h1, h2, h3, h4, hb, ?_, h6⟩
  have ha : aO T π nt ops i = isAct (.mk (cDst π (dD ops i)) op g) := by unfold aO; rw [h1]
  cases b with
  | false =>
    have h8 : some (DR.mk .undef (H i) (.mk [] (some []))) = some (.mk (V i) (H (i + 1)) (E i)) := h7
    simp only [Option.some.injEq, DR.mk.injEq] at h8
    exact .skip h8.1.symm h8.2.1.symm h8.2.2.symm
  | true =>
    cases hm : md T π nt ops i with
    | none =>
      rw [hm] at h7
      obtain ⟨p, hp, h8⟩ := ob_some.1 (show ob (iop cl (revOf V i) (F i) (H i) op) (fun p => some (.mk p.1 p.2 (.mk [] (some [])))) = some (DR.mk (V i) (H (i + 1)) (E i)) from h7)
      obtain ⟨v, h'⟩ := p
      simp only [Option.some.injEq, DR.mk.injEq] at h8
      obtain ⟨rfl, rfl, h9⟩ := h8
      cases op with
      | p po =>
        obtain ⟨v', hv', h10⟩ := ob_some.1 (show ob (pop (revOf V i) (F i) po) (fun v => ok v (H i)) = some (V i, H (i + 1)) from hp)
        have h11 : v' = V i ∧ H i = H (i + 1) := by simpa [ok] using h10
        exact .pure po rfl (by rw [← h11.1]; exact hv') h11.2.symm h9.symm (by rw [ha]; rfl)
      | a ao => exact .tail hm (by rw [ha]; rfl) hp h9.symm
    | some js =>
      rw [hm] at h7
      obtain ⟨hid', v, h1', e, h8, h9, h10⟩ := drHead_some (show drHead cl (revOf V i) (F i) (revOf E i) (H i) op js = some (.mk (V i) (H (i + 1)) (E i)) from h7)
      simp only [DR.mk.injEq] at h10
      obtain ⟨rfl, h11, rfl⟩ := h10
      exact .head js hid' h1' hm h8 h9 h11
/-- what is asked of a head operation's own heap -/
theorem head_abs {st fr : List AV} {es : List Ent} {h : Hp} {op : IOp} {js : List Nat} {hid' : List (Nat × Nat)} {v : AV} {h1 : Hp} {e : Ent} (hr : HeadR cl st fr es h op js hid' v h1 e) (wf : WF h) (hcl : ClAbs cl) (hsub : ∀ n, inHid h.hid n = true → inHid hid' n = true) :
    WF h1 ∧ h.next ≤ h1.next ∧ (∀ n, ¬ inHid (ivOf e) n = true → h1.tr.get n = h.tr.get n) ∧
    (∀ n, inHid (ivOf e) n = true → (h.next ≤ n ∧ n < h1.next) ∨ (h.lo ≤ n ∧ n < h.next ∧ inHid hid' n = false ∧ (h.tr.get n).isSome = true ∧ clsOf st fr op = .app n)) ∧
    (∀ n, n < h.next → (h1.tr.get n).isSome = true → (h.tr.get n).isSome = true) ∧
    (∀ n, h.next ≤ n → n < h1.next → inHid hid' n = false ∧ inHid h.hid n = false ∧ inHid (ivOf e) n = true) := by
  have seen : ∀ lo', Abs (clsW (.mk h.next h.tr lo' hid') (clsOf st fr op)) (.mk h.next h.tr lo' hid') h1 → ∀ n, h.next ≤ n → n < h1.next → inHid hid' n = false ∧ inHid h.hid n = false := by
    intro lo' a n h2 h3
    have h4 := a.seen n h2 h3
    refine ⟨h4, ?_⟩
    cases h5 : inHid h.hid n with
    | false => rfl
    | true => have h6 := hsub n h5; rw [show inHid hid' n = false from h4] at h6; cases h6
  have out : ∀ {lo'}, Abs (clsW (.mk h.next h.tr lo' hid') (clsOf st fr op)) (.mk h.next h.tr lo' hid') h1 → ∀ n, h1.next ≤ n → h1.tr.get n = h.tr.get n := fun a n hn => by
    rw [a.wf.fresh n hn, wf.fresh n (Nat.le_trans a.nx hn)]
  have wf' : ∀ lo', lo' ≤ h.next → WF (.mk h.next h.tr lo' hid') := fun lo' hl => ⟨wf.pos, wf.top, hl, wf.fresh⟩
  -- the classes that touch new names alone
  have new : ∀ (iv : List (Nat × Nat)), Abs (clsW (.mk h.next h.tr h.next hid') (clsOf st fr op)) (.mk h.next h.tr h.next hid') h1 → (∀ n, n < h.next → ¬ clsW (.mk h.next h.tr h.next hid') (clsOf st fr op) n) →
      (∀ n, inHid iv n = true ↔ (h.next ≤ n ∧ n < h1.next)) →
      WF h1 ∧ h.next ≤ h1.next ∧ (∀ n, ¬ inHid iv n = true → h1.tr.get n = h.tr.get n) ∧
      (∀ n, inHid iv n = true → (h.next ≤ n ∧ n < h1.next) ∨ (h.lo ≤ n ∧ n < h.next ∧ inHid hid' n = false ∧ (h.tr.get n).isSome = true ∧ clsOf st fr op = .app n)) ∧
      (∀ n, n < h.next → (h1.tr.get n).isSome = true → (h.tr.get n).isSome = true) ∧
      (∀ n, h.next ≤ n → n < h1.next → inHid hid' n = false ∧ inHid h.hid n = false ∧ inHid iv n = true) := by
    intro iv a hw hiv
    refine ⟨a.wf, a.nx, fun n hn => ?_, fun n hn => .inl ((hiv n).1 hn), fun n hn hs => a.live n hn hs, fun n h2 h3 => ?_⟩
    · rcases Nat.lt_or_ge n h.next with h2 | h2
      · exact a.keep n h2 (.inl (hw n h2))
      · rcases Nat.lt_or_ge n h1.next with h3 | h3
        · exact absurd ((hiv n).2 ⟨h2, h3⟩) hn
        · exact out a n h3
    · obtain ⟨h4, h5⟩ := seen _ a n h2 h3
      exact ⟨h4, h5, (hiv n).2 ⟨h2, h3⟩⟩
  cases hr with
  | fresh _ hc hi =>
    have a := (iop_abs (wf' _ (Nat.le_refl _)) hcl hi).1
    exact new _ a (fun n hn h => by rw [hc] at h; exact h) (fun n => by simp [ivOf, inHid_cons, inHid_nil])
  | load x _ hc hi =>
    have a := (iop_abs (wf' _ (Nat.le_refl _)) hcl hi).1
    obtain ⟨n', agg, y, off, rfl, hy⟩ := cls_load hc
    obtain ⟨rfl, _, _⟩ := iop_load hy hi
    exact new _ a (fun n hn h => by rw [hc] at h; exact h) (fun n => by
      show inHid [] n = true ↔ h.next ≤ n ∧ n < h.next
      simp [inHid_nil])
  | quiet _ hc hi =>
    have a := (iop_abs (wf' _ (Nat.le_refl _)) hcl hi).1
    obtain ⟨rfl, _⟩ := iop_quiet hc hi
    exact new _ a (fun n hn h => by rw [hc] at h; exact h) (fun n => by
      show inHid [] n = true ↔ h.next ≤ n ∧ n < h.next
      simp [inHid_nil])
  | other _ hc hi =>
    have a := (iop_abs (wf' _ (Nat.le_refl _)) hcl hi).1
    exact new _ a (fun n hn h' => by rw [hc] at h'; exact absurd (show h.next ≤ n from h') (by omega)) (fun n => by simp [ivOf, inHid_cons, inHid_nil])
  | app b _ hc hu hlo hg hi =>
    have a := (iop_abs (wf' _ wf.lo) hcl hi).1
    obtain ⟨g1, g2⟩ := Hp.get_isSome hg
    have hb : b < h.next := wf.lt g2
    have hiv : ∀ n, inHid [(b, b + 1), (h.next, h1.next)] n = true ↔ n = b ∨ (h.next ≤ n ∧ n < h1.next) := fun n => by
      simp only [inHid_cons, inHid_nil, Bool.false_eq_true, or_false]
      constructor
      · rintro (h | h)
        · exact .inl (by omega)
        · exact .inr h
      · rintro (h | h)
        · exact .inl (by omega)
        · exact .inr h
    refine ⟨a.wf, a.nx, fun n hn => ?_, fun n hn => ?_, fun n hn hs => a.live n hn hs, fun n h2 h3 => ?_⟩
    · have hn' := fun h => hn ((hiv n).2 h)
      rcases Nat.lt_or_ge n h.next with h2 | h2
      · exact a.keep n h2 (.inl (fun h => by rw [hc] at h; exact hn' (.inl h)))
      · rcases Nat.lt_or_ge n h1.next with h3 | h3
        · exact absurd (.inr ⟨h2, h3⟩) hn'
        · exact out a n h3
    · rcases (hiv n).1 hn with rfl | h2
      · exact .inr ⟨hlo, hb, g1, g2, hc⟩
      · exact .inl h2
    · obtain ⟨h4, h5⟩ := seen _ a n h2 h3
      exact ⟨h4, h5, (hiv n).2 (.inr ⟨h2, h3⟩)⟩
/-- one operation's step of the interpreter's heap -/
structure StepA (H : Nat → Hp) (E : Nat → Ent) (i : Nat) (isT : Prop) : Prop where
  wf : WF (H (i + 1))
  nx : (H i).next ≤ (H (i + 1)).next
  lo : (H (i + 1)).lo = (H i).lo
  hid : (H (i + 1)).hid = (H i).hid
  same : ¬ isT → ∀ n, ¬ Tch E i n → (H (i + 1)).tr.get n = (H i).tr.get n
  tch : ∀ n, Tch E i n → ((H i).next ≤ n ∧ n < (H (i + 1)).next) ∨ ((H i).lo ≤ n ∧ n < (H i).next ∧ inHid (H i).hid n = false ∧ ((H i).tr.get n).isSome = true)
  live : ∀ n, n < (H i).next → ((H (i + 1)).tr.get n).isSome = true → ((H i).tr.get n).isSome = true
  seen : ∀ n, (H i).next ≤ n → n < (H (i + 1)).next → inHid (H i).hid n = false ∧ (¬ isT → Tch E i n)
theorem DCtx.stepA (c : DCtx T π nt ops cl V H E F) {i : Nat} (hi : i < ops.size) (wf : WF (H i)) : StepA H E i (aO T π nt ops i = true ∧ md T π nt ops i = none) := by
  obtain ⟨op, g, b, h1, h2, h3, h4, hb, hk, h6⟩ := c.kind hi
  have quiet : H (i + 1) = H i → E i = .mk [] (some []) → StepA H E i (aO T π nt ops i = true ∧ md T π nt ops i = none) := by
    intro e1 e2
    refine ⟨by rw [e1]; exact wf, by rw [e1]; exact Nat.le_refl _, by rw [e1], by rw [e1], fun _ n _ => by rw [e1], fun n hn => ?_, fun n _ hs => by rwa [e1] at hs, fun n h5 h6 => by rw [e1] at h6; omega⟩
    have hn' : inHid (ivOf (E i)) n = true := hn
    rw [e2] at hn'; cases hn'
  cases hk with
  | skip e1 e2 e3 => exact quiet e2 e3
  | pure po e1 e2 e3 e4 e5 => exact quiet e3 e4
  | head js hid' h1' hm hs hr he =>
    obtain ⟨a1, a2, a3, a4, a5, a6⟩ := head_abs hr wf c.cla (fun n hn => (sel_spec hs n).2 (.inl hn))
    have hlo := wf.lo
    have en : (H (i + 1)).next = h1'.next := by rw [he]; rfl
    have et : (H (i + 1)).tr = h1'.tr := by rw [he]; rfl
    have el : (H (i + 1)).lo = (H i).lo := by rw [he]; rfl
    have eh : (H (i + 1)).hid = (H i).hid := by rw [he]; rfl
    refine ⟨⟨by rw [en]; exact a1.pos, by rw [en]; exact a1.top, by rw [el, en]; exact Nat.le_trans hlo a2, by rw [en, et]; exact a1.fresh⟩, by rw [en]; exact a2, el, eh, fun _ n hn => by rw [et]; exact a3 n hn, fun n hn => ?_, by rw [et]; exact a5, fun n h5 h6 => by rw [en] at h6; exact ⟨(a6 n h5 h6).2.1, fun _ => (a6 n h5 h6).2.2⟩⟩
    rw [en]
    rcases a4 n hn with h | ⟨h5, h7, h8, h9, _⟩
    · exact .inl h
    · refine .inr ⟨h5, h7, ?_, h9⟩
      cases h10 : inHid (H i).hid n with
      | false => rfl
      | true => have := (sel_spec hs n).2 (.inl h10); rw [h8] at this; cases this
  | tail hm ha hi' he =>
    have a := (iop_abs wf c.cla hi').2
    refine ⟨a.wf, a.nx, a.lo, a.hid, fun h => absurd ⟨ha, hm⟩ h, fun n hn => ?_, a.live, fun n h5 h6 => ⟨a.seen n h5 h6, fun h => absurd ⟨ha, hm⟩ h⟩⟩
    have hn' : inHid (ivOf (E i)) n = true := hn
    rw [he] at hn'; cases hn'
theorem DCtx.wfs (c : DCtx T π nt ops cl V H E F) : ∀ i, i ≤ ops.size → WF (H i) ∧ (H i).lo = (H 0).lo ∧ (H i).hid = (H 0).hid
  | 0, _ => ⟨c.wf, rfl, rfl⟩
  | i + 1, hi => by
    obtain ⟨h1, h2, h3⟩ := DCtx.wfs c i (by omega)
    have s := c.stepA (show i < ops.size by omega) h1
    exact ⟨s.wf, s.lo.trans h2, s.hid.trans h3⟩
theorem DCtx.step (c : DCtx T π nt ops cl V H E F) {i : Nat} (hi : i < ops.size) : StepA H E i (aO T π nt ops i = true ∧ md T π nt ops i = none) := c.stepA hi (c.wfs i (by omega)).1
theorem DCtx.mono (c : DCtx T π nt ops cl V H E F) {i : Nat} : ∀ j, i ≤ j → j ≤ ops.size → (H i).next ≤ (H j).next
  | 0, h1, h2 => by obtain rfl : i = 0 := by omega
                    exact Nat.le_refl _
  | j + 1, h1, h2 => by
    rcases Nat.lt_or_ge i (j + 1) with h3 | h3
    · exact Nat.le_trans (DCtx.mono c j (by omega) (by omega)) (c.step (show j < ops.size by omega)).nx
    · obtain rfl : i = j + 1 := by omega
      exact Nat.le_refl _
/-- operations whose touching tells all: not of the tail -/
def NoTail (T : Tr TI) (π : List Nat) (nt : Nat) (ops : Array Oper) (i : Nat) : Prop := ∀ j, j < i → ¬ (aO T π nt ops j = true ∧ md T π nt ops j = none)
theorem DCtx.last (c : DCtx T π nt ops cl V H E F) (n : Nat) : ∀ i, i ≤ ops.size → NoTail T π nt ops i →
    ((∀ j, j < i → ¬ Tch E j n) ∧ (H i).tr.get n = (H 0).tr.get n) ∨ ∃ k, k < i ∧ Tch E k n ∧ (∀ j, k < j → j < i → ¬ Tch E j n) ∧ (H i).tr.get n = (H (k + 1)).tr.get n
  | 0, _, _ => .inl ⟨fun j hj => by omega, rfl⟩
  | i + 1, hi, ht => by
    have s := c.step (show i < ops.size by omega)
    by_cases h : Tch E i n
    · exact .inr ⟨i, by omega, h, fun j h1 h2 => by omega, rfl⟩
    · have e := s.same (ht i (by omega)) n h
      rcases DCtx.last c n i (by omega) (fun j hj => ht j (by omega)) with ⟨h1, h2⟩ | ⟨k, h1, h2, h3, h4⟩
      · refine .inl ⟨fun j hj => ?_, e.trans h2⟩
        rcases Nat.lt_succ_iff_lt_or_eq.1 hj with h3 | h3
        · exact h1 j h3
        · subst h3; exact h
      · refine .inr ⟨k, by omega, h2, fun j h5 h6 => ?_, e.trans h4⟩
        rcases Nat.lt_succ_iff_lt_or_eq.1 h6 with h7 | h7
        · exact h3 j h5 h7
        · subst h7; exact h
theorem DCtx.live (c : DCtx T π nt ops cl V H E F) {n : Nat} (hn : n < (H 0).next) : ∀ i, i ≤ ops.size → ((H i).tr.get n).isSome = true → ((H 0).tr.get n).isSome = true
  | 0, _, h => h
  | i + 1, hi, h => by
    have s := c.step (show i < ops.size by omega)
    exact DCtx.live c hn i (by omega) (s.live n (Nat.lt_of_lt_of_le hn (c.mono i (by omega) (by omega))) h)
/-! ### masks -/
theorem DCtx.maskDep (c : DCtx T π nt ops cl V H E F) {i j : Nat} (hi : i < ops.size) (h : tb (mM ops i) j = true) :
    ∃ e ∈ (opAt ops i).after.toList, Region.binds .any e = true ∧ e.on < i ∧ (j = e.on ∨ tb (mM ops e.on) j = true) := by
  obtain ⟨h1, h2⟩ := mskOf_spec (c.opf i hi).msk
  rcases (h2 j).1 h with h3 | ⟨e, h3, h4, h5⟩
  · rw [tb_zero] at h3; cases h3
  · have hlt := h1 e h3 h4
    refine ⟨e, h3, h4, hlt, ?_⟩
    rcases h5 with h5 | ⟨m', h5, h6⟩
    · exact .inl h5
    · rw [revOf_at (mM ops) hlt] at h5
      cases h5
      exact .inr h6
theorem DCtx.back (c : DCtx T π nt ops cl V H E F) {i : Nat} (hi : i < ops.size) {e : Edge} (he : e ∈ (opAt ops i).after.toList) (hb : Region.binds .any e = true) : e.on < i :=
  (mskOf_spec (c.opf i hi).msk).1 e he hb
/-- all that are listed have all listed behind which they are -/
def Closed (ops : Array Oper) (L : Nat → Prop) : Prop := ∀ i, i < ops.size → L i → ∀ e ∈ (opAt ops i).after.toList, Region.binds .any e = true → L e.on
theorem DCtx.maskIn (c : DCtx T π nt ops cl V H E F) {L : Nat → Prop} (hL : Closed ops L) : ∀ (i j : Nat), i < ops.size → (∀ e ∈ (opAt ops i).after.toList, Region.binds .any e = true → L e.on) → tb (mM ops i) j = true → L j := by
  intro i
  induction i using Nat.strongRecOn with
  | _ i ih =>
    intro j hi hd h
    obtain ⟨e, h1, h2, h3, h4⟩ := c.maskDep hi h
    rcases h4 with rfl | h4
    · exact hd e h1 h2
    · exact ih e.on h3 j (by omega) (hL e.on (by omega) (hd e h1 h2)) h4
theorem DCtx.maskLt (c : DCtx T π nt ops cl V H E F) : ∀ (i j : Nat), i < ops.size → tb (mM ops i) j = true → j < i := by
  intro i
  induction i using Nat.strongRecOn with
  | _ i ih =>
    intro j hi h
    obtain ⟨e, h1, h2, h3, h4⟩ := c.maskDep hi h
    rcases h4 with rfl | h4
    · exact h3
    · have := ih e.on h3 j (by omega) h4
      omega
theorem mem_js {i j : Nat} {js : List Nat} (hm : md T π nt ops i = some js) (hj : j < i) : (i - 1 - j) ∈ js ↔ (aO T π nt ops j = true ∧ tb (mM ops i) j = false) := by
  unfold md at hm
  split at hm
  · cases hm
    rw [bitsOf_mem]
    constructor
    · rintro ⟨o, h1, h2, h3⟩
      have e : i - 1 - o = j := by omega
      rw [e, unO_spec] at h3
      simp only [Bool.and_eq_true, decide_eq_true_eq, Bool.not_eq_true'] at h3
      exact ⟨h3.1.2, h3.2⟩
    · rintro ⟨h1, h2⟩
      refine ⟨i - 1 - j, by omega, by omega, ?_⟩
      have e : i - 1 - (i - 1 - j) = j := by omega
      rw [e, unO_spec, h1, h2]
      simp [hj]
  · cases hm
theorem js_lt {i o : Nat} {js : List Nat} (hm : md T π nt ops i = some js) (ho : o ∈ js) : o < i := by
  unfold md at hm
  split at hm
  · cases hm
    obtain ⟨o', h1, h2, _⟩ := bitsOf_mem.1 ho
    omega
  · cases hm
theorem md_head {i : Nat} {js : List Nat} (hm : md T π nt ops i = some js) : aO T π nt ops i = true ∧ NoTail T π nt ops i := by
  unfold md at hm
  split at hm
  · rename_i hc
    refine ⟨hc.1, fun j hj ⟨h1, h2⟩ => ?_⟩
    obtain ⟨k, h3, h4, h5, h6⟩ := hc.2
    unfold md at h2
    rw [if_pos ⟨h1, k, by omega, h4, h5, h6⟩] at h2
    cases h2
  · cases hm
/-- an operation of the tail is behind all before it that act; and all behind it that act are of the tail -/
theorem md_tail {i : Nat} (hi : i < ops.size) (ha : aO T π nt ops i = true) (hm : md T π nt ops i = none) :
    (∀ j, j < i → aO T π nt ops j = true → tb (mM ops i) j = true) ∧ ∀ k, i ≤ k → k < ops.size → aO T π nt ops k = true → md T π nt ops k = none ∧ ∀ j, j < k → aO T π nt ops j = true → tb (mM ops k) j = true := by
  have hno : ∀ k, i ≤ k → k < ops.size → aO T π nt ops k = true → unO T π nt ops k = 0 := by
    intro k h1 h2 h3
    unfold md at hm
    split at hm
    · cases hm
    · rename_i hc
      rcases Nat.eq_zero_or_pos (unO T π nt ops k) with h | h
      · exact h
      · exact absurd ⟨ha, k, h1, h2, h3, by omega⟩ hc
  have hall : ∀ k, i ≤ k → k < ops.size → aO T π nt ops k = true → ∀ j, j < k → aO T π nt ops j = true → tb (mM ops k) j = true := by
    intro k h1 h2 h3 j hj h4
    have h5 := unO_spec T π nt ops k j
    rw [hno k h1 h2 h3, tb_zero, h4] at h5
    cases h6 : tb (mM ops k) j with
    | true => rfl
    | false => rw [h6] at h5; simp [hj] at h5
  refine ⟨fun j hj h => hall i (Nat.le_refl _) hi ha j hj h, fun k h1 h2 h3 => ⟨?_, hall k h1 h2 h3⟩⟩
  unfold md
  rw [if_neg]
  rintro ⟨_, j, h4, h5, h6, h7⟩
  exact h7 (hno j (by omega) h5 h6)
end
end Go.Proofs.YtmaaalpegnhjcaaDoor.Ev
