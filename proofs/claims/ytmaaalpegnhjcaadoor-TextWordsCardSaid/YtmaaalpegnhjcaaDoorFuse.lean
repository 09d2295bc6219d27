/- Boxes that are filled once: they stay. A region without guards in which there are such. No program in sight. -/
import Derived.Test.YtmaaalpegnhjcaaDoorDrawS
import Derived.Tactics
namespace Go.Proofs.YtmaaalpegnhjcaaDoor.Ev
open Go
set_option linter.unusedVariables false
set_option linter.unusedSimpArgs false
inductive StC (T : Tr TI) (cb π : List Nat) (nt : Nat) (loc : List (Option Nat)) (o : Oper) : Option (Nat × TypeId) → IOper → Option (Nat × TypeId) → Option Nat → Prop where
  | alloc (t : Nat) (e : TypeId) (ti : TI) : o.op = .alloc e → o.dst = some t → noLoc loc t = true → oget T e = some ti → StC T cb π nt loc o none (.mk (cDst π (some t)) (.p (.mv (.c .any))) none) (some (t, e)) none
  | box (t : Nat) (e : TypeId) (x : Operand) (x' : Od) (ti : TI) : o.op = .box e x → o.dst = some t → oget T e = some ti → cO π loc x = some x' → StC T cb π nt loc o none (.mk (cDst π (some t)) (.a (.boxc ti.size x')) none) none (some t)
  | norm (op : IOp) : cOp T π loc o.op = some op → StC T cb π nt loc o none (.mk (cDst π o.dst) op none) none o.dst
  | store (t : Nat) (e : TypeId) (v : Operand) (v' : Od) (ti : TI) : o.op = .store e (.tmp t) v → o.dst = none → readsNo t [v] = true → oget T e = some ti → cO π loc v = some v' → StC T cb π nt loc o (some (t, e)) (.mk (cDst π (some t)) (.a (.boxc ti.size v')) none) none (some t)
  | mid (t : Nat) (e : TypeId) (po : PO) : readsNo t o.op.operands.toList = true → o.dst ≠ some t → cOp T π loc o.op = some (.p po) → StC T cb π nt loc o (some (t, e)) (.mk (cDst π o.dst) (.p po) none) (some (t, e)) o.dst
theorem hasC_nil : ∀ l : List Oper, hasC [] l = false
  | [] => rfl
  | o :: r => by
    simp only [hasC, hasC_nil r, Bool.or_false]
    split <;> rfl
theorem kindC_alloc {cb : List Nat} {o : Oper} {t : Nat} {e : TypeId} (h : kindC cb o = .alloc t e) : o.op = .alloc e ∧ o.dst = some t := by
  unfold kindC at h
  split at h
  · rename_i e' t' h1 h2
    cases hb : memF t' cb <;> rw [hb] at h <;> cases h
    exact ⟨h1, h2⟩
  · rename_i e' x' t' h1 h2
    cases hb : memF t' cb <;> rw [hb] at h <;> cases h
  · cases h
theorem kindC_box {cb : List Nat} {o : Oper} {t : Nat} {e : TypeId} {x : Operand} (h : kindC cb o = .box t e x) : o.op = .box e x ∧ o.dst = some t := by
  unfold kindC at h
  split at h
  · rename_i e' t' h1 h2
    cases hb : memF t' cb <;> rw [hb] at h <;> cases h
  · rename_i e' x' t' h1 h2
    cases hb : memF t' cb <;> rw [hb] at h <;> cases h
    exact ⟨h1, h2⟩
  · cases h
theorem storeOf_some {o : Oper} {e : TypeId} {t : Nat} {v : Operand} (h : storeOf o = some (e, t, v)) : o.op = .store e (.tmp t) v := by
  unfold storeOf at h
  split at h
  · rename_i h1; cases h; exact h1
  · cases h
theorem stepC_some {T : Tr TI} {cb π : List Nat} {nt : Nat} {p p' : Option (Nat × TypeId)} {loc : List (Option Nat)} {o : Oper} {io : IOper} {d' : Option Nat} (h : stepC T cb π nt p loc o = some (io, p', d')) :
    o.guard = none ∧ dstOk nt o.dst = true ∧ StC T cb π nt loc o p io p' d' := by
  unfold stepC at h
  split at h
  · cases h
  rename_i hg
  refine ⟨hg, ?_⟩
  cases hd : dstOk nt o.dst with
  | false => rw [hd] at h; cases h
  | true =>
    rw [hd] at h
    simp only [cond_true] at h
    refine ⟨rfl, ?_⟩
    split at h
    · split at h
      · rename_i t e hk
        obtain ⟨h1, h2⟩ := kindC_alloc hk
        cases hn : noLoc loc t with
        | false => rw [hn] at h; cases h
        | true =>
          rw [hn] at h
          simp only [cond_true] at h
          split at h
          · rename_i ti hti
            cases h
            exact .alloc t e ti h1 h2 hn hti
          · cases h
      · rename_i t e x hk
        obtain ⟨h1, h2⟩ := kindC_box hk
        split at h
        · rename_i ti x' hti hx
          cases h
          exact .box t e x x' ti h1 h2 hti hx
        · cases h
      · split at h
        · rename_i op hop
          cases h
          exact .norm op hop
        · cases h
    · rename_i t e
      split at h
      · rename_i e' t' v hs
        have h1 := storeOf_some hs
        cases hb : (Nat.beq e' e && (Nat.beq t' t && (readsNo t [v] && dNone o.dst))) with
        | false => rw [hb] at h; cases h
        | true =>
          rw [hb] at h
          simp only [cond_true] at h
          simp only [Bool.and_eq_true] at hb
          obtain ⟨b1, b2, b3, b4⟩ := hb
          obtain rfl := Nat.eq_of_beq_eq_true b1
          obtain rfl := Nat.eq_of_beq_eq_true b2
          have hdn : o.dst = none := by
            cases hd' : o.dst with
            | none => rfl
            | some _ => rw [hd'] at b4; cases b4
          split at h
          · rename_i ti v' hti hv
            cases h
            exact .store t' e' v v' ti h1 hdn b3 hti hv
          · cases h
      · cases hb : (readsNo t o.op.operands.toList && dNe t o.dst) with
        | false => rw [hb] at h; cases h
        | true =>
          rw [hb] at h
          simp only [cond_true, Bool.and_eq_true] at h hb
          obtain ⟨b1, b2⟩ := hb
          have hne : o.dst ≠ some t := fun e' => by
            rw [e'] at b2
            simp [dNe, Nat.beq_refl] at b2
          split at h
          · rename_i po hop
            cases h
            exact .mid t e po b1 hne hop
          · cases h
theorem readsNo_mem {t : Nat} : ∀ {l : List Operand}, readsNo t l = true → Operand.tmp t ∉ l
  | [], _, h => by simp at h
  | .tmp u :: r, h, hm => by
    simp only [readsNo, Bool.and_eq_true] at h
    rcases List.mem_cons.1 hm with e | e
    · cases e; simp [Nat.beq_refl] at h
    · exact readsNo_mem h.2 e
  | .const _ :: r, h, hm => by
    rcases List.mem_cons.1 hm with e | e
    · cases e
    · exact readsNo_mem (show readsNo t r = true from h) e
  | .func _ :: r, h, hm => by
    rcases List.mem_cons.1 hm with e | e
    · cases e
    · exact readsNo_mem (show readsNo t r = true from h) e
  | .global _ :: r, h, hm => by
    rcases List.mem_cons.1 hm with e | e
    · cases e
    · exact readsNo_mem (show readsNo t r = true from h) e
section
variable {P : Program} {A : Nat → Int} {T : Tr TI} {cb π : List Nat} {nt : Nat} {cl : FuncId → List AV → Hp → R} {φ φ0 : Phi} {h hh : Hp} {w w0 w' w1 w2 : World} {W : Nat → Prop}
/-- a block more, of which nobody speaks -/
theorem Rel.grow (k : Rel A φ h w) {c : Array Value} {ty : TypeId} (g : Grown w w' c ty) : Step W φ φ h h w w' ∧ Rel A φ h w' := by
  refine ⟨⟨Abs.refl W k.wf, fun _ _ => rfl, fun _ _ e => e, fun _ _ e => .inl e, g.os, g.tape, g.output, by rw [g.size]; omega, fun b hb _ => g.old b hb, fun n L hn _ hL => by rw [k.dom n hn] at hL; cases hL⟩, ⟨k.wf, k.dom, fun n x hx => ?_, k.inj, fun b cs e => ?_, k.sep⟩⟩
  · refine (k.blk n x hx).world (fun L hL => g.old _ ?_)
    obtain ⟨L', hL', hb⟩ := (k.blk n x hx).some_loc
    rw [hL'] at hL
    cases hL
    exact hb
  · obtain ⟨ty', h3⟩ := k.con b cs e
    exact ⟨ty', by rw [g.old b (k.conLt e)]; exact h3⟩
/-- a block of which nobody speaks is filled, and stays -/
theorem Rel.fill (s : Step W φ0 φ hh h w0 w1) (k : Rel A φ h w1) {b : Nat} {c : Array Value} {ty : TypeId} (hb : w0.heap.size ≤ b) (hk : φ.k b = none) (hn : ∀ n L, (h.get n).isSome = true → φ n = some L → L.b ≠ b) (g : Changed w1 w2 b c ty) :
    Step W φ0 (φ.cst b c) hh h w0 w2 ∧ Rel A (φ.cst b c) h w2 ∧ φ.le (φ.cst b c) := by
  have hkc : ∀ p cs, φ.k p = some cs → (φ.cst b c).k p = some cs := fun p cs e => by
    show (φ.k p).or (if p = b then some c else none) = some cs
    rw [e]; rfl
  have hle : φ.le (φ.cst b c) := ⟨fun _ _ e => e, hkc⟩
  have hcase : ∀ p cs, (φ.cst b c).k p = some cs → (p = b ∧ cs = c) ∨ (p ≠ b ∧ φ.k p = some cs) := fun p cs e => by
    have e' : (φ.k p).or (if p = b then some c else none) = some cs := e
    cases hq : φ.k p with
    | some x =>
      rw [hq] at e'
      exact .inr ⟨(fun h1 => by subst h1; rw [hk] at hq; cases hq), e'⟩
    | none =>
      rw [hq, Option.none_or] at e'
      split at e'
      · rename_i h1; exact .inl ⟨h1, (Option.some.inj e').symm⟩
      · cases e'
  refine ⟨⟨s.abs, s.ext, fun p cs e => hkc p cs (s.kle p cs e), fun p cs e => ?_, g.os.trans s.os, g.tape.trans s.tape, g.output.trans s.output, by rw [g.size]; exact s.size, fun p hp hv => ?_, s.new⟩, ⟨k.wf, k.dom, fun n x hx => ?_, k.inj, fun p cs e => ?_, fun n L hl hL => ?_⟩, hle⟩
  · rcases hcase p cs e with ⟨rfl, _⟩ | ⟨_, h1⟩
    · exact .inr hb
    · exact s.knew p cs h1
  · rw [g.old p (by omega)]; exact s.old p hp hv
  · refine ((k.blk n x hx).mono hle).world (fun L hL => g.old _ ?_)
    exact hn n L (by rw [hx]; rfl) hL
  · rcases hcase p cs e with ⟨rfl, rfl⟩ | ⟨h1, h2⟩
    · exact ⟨(ty, 0, 0), g.new⟩
    · obtain ⟨ty', h3⟩ := k.con p cs h2
      exact ⟨ty', by rw [g.old p h1]; exact h3⟩
  · have h1 := k.sep n L hl hL
    have h2 := hn n L hl hL
    show (φ.k L.b).or (if L.b = b then some c else none) = none
    rw [if_neg h2, h1]; rfl
/-- a box that waits for what fills it -/
def PendR (T : Tr TI) (φ : Phi) (h : Hp) (loc : List (Option Nat)) (a : Act) (w0 w : World) : Option (Nat × TypeId) → Prop
  | none => True
  | some (t, e) => ∃ b zc ti, oget T e = some ti ∧ a.tmps.getD t undef = .pointer (some ⟨b, 0, none⟩) ∧ w.heap[b]? = some (.cells zc e (0, 0)) ∧ zc.size = ti.size ∧ w0.heap.size ≤ b ∧ φ.k b = none ∧ (∀ n L, (h.get n).isSome = true → φ n = some L → L.b ≠ b) ∧ t < a.tmps.size ∧ noLoc loc t = true ∧ dstOk nt (some t) = true
theorem dst_lt {t : Nat} {a : Act} (hnt : nt ≤ a.tmps.size) (hd : dstOk nt (some t) = true) : t < a.tmps.size := by
  have : Nat.ble (t + 1) nt = true := hd
  exact Nat.lt_of_lt_of_le (Nat.le_of_ble_eq_true this) hnt
theorem noLoc_none {loc : List (Option Nat)} {t : Nat} (h : noLoc loc t = true) : idxL t loc 0 = none := by
  unfold noLoc at h
  split at h
  · cases h
  · rename_i h1; exact h1
/-- cells as they stay, from an operand -/
theorem boxc_cV {st fr : List AV} {n : Nat} {x : Od} {v : AV} {h' : Hp} {rv : Value} (hv : opBoxc st fr h n x = some (v, h')) (hc : ∀ u, ev st fr x = some u → cV A φ u rv) :
    h' = h ∧ rv.cells.size = n ∧ (∀ u ∈ rv.cells.toList, u.oneCell' = true) ∧ ∀ ψ : Phi, φ.le ψ → ∀ b, ψ.k b = some rv.cells → cV A ψ v (.pointer (some ⟨b, 0, none⟩)) := by
  obtain ⟨u, hu, hv1⟩ := ob_some.1 hv
  obtain ⟨cs, hv2, ha⟩ := (hc u hu).cells hv1
  obtain ⟨h1, hv3⟩ := oif_some.1 hv2
  obtain ⟨h2, hv4⟩ := oif_some.1 hv3
  cases hv4
  rw [nbeq, llen_eq] at h1
  have hl := ha.len
  refine ⟨rfl, by simp at hl; omega, all2_one ha, fun ψ hle b hb => ⟨b, 0, _, hb, rfl, fun j y hy => ?_⟩⟩
  obtain ⟨u', h3, h4⟩ := ha.get j y hy
  refine ⟨u', by rw [Nat.zero_add]; simpa using h3, (h4.toD (grds_all h2 y (List.mem_of_getElem? hy))).mono hle.con⟩
theorem iopsC_sound (hT : Tys P T) (hclk : ClOk P A cl) {ops : Array Oper} {Q : Exit → Act → World → Prop} {s : St} : ∀ (r : List Oper) (p : Option (Nat × TypeId)) (loc : List (Option Nat)) (l : List IOper) (st fr : List AV) (h : Hp) (φ : Phi) (a : Act) (w : World),
    cRegionC T cb π nt p loc r = some l → iops cl l st fr h = some s → Step (fun n => hh.lo ≤ n) φ0 φ hh h w0 w → Rel A φ h w → FrR A φ π fr a → LoR A φ loc st a → nt ≤ a.tmps.size → PendR (nt := nt) T φ h loc a w0 w p →
    (∀ φ' fr' h' a' w', s = .mk fr' h' → Step (fun n => hh.lo ≤ n) φ0 φ' hh h' w0 w' → Rel A φ' h' w' → FrR A φ' π fr' a' → a'.defers = a.defers → a'.tmps.size = a.tmps.size → Q .normal a' w') →
    wpList P ops Q r a w
  | [], p, loc, l, st, fr, h, φ, a, w, hc, hi, S, rel, hf, hl, hnt, hp, hQ => by
    cases p with
    | none =>
      cases hc
      exact hQ φ fr h a w (Option.some.inj (show some (St.mk fr h) = some s from hi)).symm S rel hf rfl rfl
    | some q => cases hc
  | o :: r, p, loc, l, st, fr, h, φ, a, w, hc, hi, S, rel, hf, hl, hnt, hp, hQ => by
    have hc' : (match stepC T cb π nt p loc o with
      | some (io, p', d') => (cRegionC T cb π nt p' (d' :: loc) r).map fun l => io :: l
      | none => none) = some l := by
      cases p <;> exact hc
    cases hst : stepC T cb π nt p loc o with
    | none => rw [hst] at hc'; cases hc'
    | some q =>
      obtain ⟨io, p', d'⟩ := q
      rw [hst] at hc'
      obtain ⟨l', hl', rfl⟩ := Option.map_eq_some_iff.1 hc'
      obtain ⟨hg, hds, hstc⟩ := stepC_some hst
      have hwant : Region.wanted o (yielded ops a.tmps) = true := by simp [Region.wanted, hg]
      simp only [wpList, hwant, if_true]
      refine .inl ?_
      cases hstc with
      | alloc t e ti h1 h2 h3 h4 =>
        obtain ⟨z, hz, hza, hzl⟩ := (hT e ti h4).run_zero (w := w)
        have g := grown_push (w := w) z.cells e
        obtain ⟨s1, r1⟩ := rel.grow (W := fun n => hh.lo ≤ n) g
        have hi1 : iops cl l' (.any :: st) (putD fr (cDst π (some t)) .any) h = some s := hi
        have hr : (execOp a.eval o).run P w = .ok (.value (.pointer (some ⟨w.heap.size, 0, none⟩))) { w with heap := w.heap.push (.cells z.cells e) } := by
          simp only [execOp, h1, Instr.alloc, Sem.run_bind, hz, Result.andThen_ok, run_newVar, Sem.run_pure]
        refine wp_of_next hr rfl ?_
        rw [h2] at hds
        have ht := dst_lt hnt hds
        refine iopsC_sound hT hclk r (some (t, e)) (none :: loc) l' (.any :: st) (putD fr (cDst π (some t)) .any) h φ _ _ hl' hi1 (S.trans s1) r1 (by rw [h2]; exact hf.put hnt hds trivial) ?_ (by rw [put_size]; exact hnt) ?_ (fun φ' fr' h' a' w' e1 S1 R1 F1 D1 Z1 => hQ φ' fr' h' a' w' e1 S1 R1 F1 (D1.trans (put_defers _ _)) (Z1.trans (put_size _ _)))
        · intro t' i u hi' hu
          rw [idxL_cons] at hi'
          simp only [reduceCtorEq, if_false] at hi'
          obtain ⟨i', hq, rfl⟩ := Option.map_eq_some_iff.1 hi'
          rw [h2, getD_put ht, if_neg]
          · exact hl t' i' u hq (by simpa using hu)
          · rintro rfl; rw [noLoc_none h3] at hq; cases hq
        · refine ⟨w.heap.size, z.cells, ti, h4, ?_, g.new, by have := (hza A φ).len; simp at this; omega, S.size, ?_, fun n L hn hL e' => ?_, by rw [put_size]; exact ht, ?_, hds⟩
          · rw [h2, getD_put ht, if_pos rfl]
          · cases hk : φ.k w.heap.size with
            | none => rfl
            | some cs => exact absurd (rel.conLt hk) (by omega)
          · obtain ⟨L', hL', hb⟩ := rel.loc hn
            rw [hL] at hL'
            cases hL'
            omega
          · unfold noLoc
            rw [idxL_cons]
            simp only [reduceCtorEq, if_false]
            rw [noLoc_none h3]
            rfl
      | box t e x x' ti h1 h2 h3 h4 =>
        obtain ⟨q, hq, hi1⟩ := ob_some.1 (show ob (opDo cl st fr h (.a (.boxc ti.size x')) none) (fun p => iops cl l' (p.1 :: st) (putD fr (cDst π (some t)) p.1) p.2) = some s from hi)
        obtain ⟨v, hv'⟩ := q
        obtain ⟨b, hb, hq1⟩ := ob_some.1 hq
        cases hb
        obtain ⟨rfl, hsz, hone, hcv⟩ := boxc_cV (A := A) (φ := φ) (rv := a.eval x) (show opBoxc st fr h ti.size x' = some (v, hv') from hq1) (fun u hu => opnd_of hf hl [x] x (by simp) _ _ h4 hu)
        have g := grown_push (w := w) (a.eval x).cells e
        obtain ⟨s1, r1⟩ := rel.cst (W := fun n => hh.lo ≤ n) g
        have hle := s1.le rel
        have hr : (execOp a.eval o).run P w = .ok (.value (.pointer (some ⟨w.heap.size, 0, none⟩))) { w with heap := w.heap.push (.cells (a.eval x).cells e) } := by
          simp only [execOp, h1, Instr.box, Sem.run_bind, Result.andThen_ok, run_newVar, Sem.run_pure]
        refine wp_of_next hr rfl ?_
        rw [h2] at hds ⊢
        have hval := hcv _ hle w.heap.size (Phi.cst_same _ _ _ (by
          cases e9 : φ.k w.heap.size with
          | none => rfl
          | some cs => exact absurd (rel.conLt e9) (by omega)))
        refine iopsC_sound hT hclk r none (some t :: loc) l' (v :: st) (putD fr (cDst π (some t)) v) _ _ _ _ hl' hi1 (S.trans s1) r1 ((hf.mono hle).put hnt hds hval) ((hl.mono hle).put hnt hds hval) (by rw [put_size]; exact hnt) trivial (fun φ' fr' h' a' w' e1 S1 R1 F1 D1 Z1 => hQ φ' fr' h' a' w' e1 S1 R1 F1 (D1.trans (put_defers _ _)) (Z1.trans (put_size _ _)))
      | norm op hop =>
        obtain ⟨q, hq, hi1⟩ := ob_some.1 (show ob (opDo cl st fr h op none) (fun p => iops cl l' (p.1 :: st) (putD fr (cDst π o.dst) p.1) p.2) = some s from hi)
        obtain ⟨v, h1⟩ := q
        obtain ⟨b, hb, hq1⟩ := ob_some.1 hq
        cases hb
        refine op_sound (cl := cl) hT hclk (opnd_of hf hl _) rel hop hq1 _ (.inr rfl) (fun φ' rv w' s1 r1 hcv => ?_)
        have hle := s1.le rel
        have s1' : Step (fun n => hh.lo ≤ n) φ φ' h h1 w w' := by rw [S.abs.lo] at s1; exact s1
        exact iopsC_sound hT hclk r none (o.dst :: loc) l' (v :: st) (putD fr (cDst π o.dst) v) h1 φ' _ _ hl' hi1 (S.trans s1') r1 ((hf.mono hle).put hnt hds hcv) ((hl.mono hle).put hnt hds hcv) (by rw [put_size]; exact hnt) trivial (fun φ' fr' h' a' w' e1 S1 R1 F1 D1 Z1 => hQ φ' fr' h' a' w' e1 S1 R1 F1 (D1.trans (put_defers _ _)) (Z1.trans (put_size _ _)))
      | store t e v v' ti h1 h2 h3 h4 h5 =>
        obtain ⟨b, zc, ti', k1, k2, k3, k4, k5, k6, k7, k8, k9, k10⟩ := hp
        rw [h4] at k1
        cases k1
        obtain ⟨q, hq, hi1⟩ := ob_some.1 (show ob (opDo cl st fr h (.a (.boxc ti.size v')) none) (fun p => iops cl l' (p.1 :: st) (putD fr (cDst π (some t)) p.1) p.2) = some s from hi)
        obtain ⟨u, hv'⟩ := q
        obtain ⟨b', hb', hq1⟩ := ob_some.1 hq
        cases hb'
        obtain ⟨rfl, hsz, hone, hcv⟩ := boxc_cV (A := A) (φ := φ) (rv := a.eval v) (show opBoxc st fr h ti.size v' = some (u, hv') from hq1) (fun u hu => opnd_of hf hl [v] v (by simp) _ _ h5 hu)
        have kt := hT e ti h4
        have hst := run_storeCells_at P b 0 e (a.eval v).cells.toList 0 zc w k3 (by simp; omega) hone
        have hfull : (zc.toList.take (0 + 0) ++ (a.eval v).cells.toList ++ zc.toList.drop (0 + 0 + (a.eval v).cells.toList.length)).toArray = (a.eval v).cells := by
          have : zc.toList.drop (a.eval v).cells.size = [] := List.drop_eq_nil_of_le (by simp; omega)
          simp [this]
        rw [hfull] at hst
        have hρ : a.eval (.tmp t) = .pointer (some ⟨b, 0, none⟩) := k2
        have hr : (execOp a.eval o).run P w = .ok .skip (w.setRow b (a.eval v).cells) := by
          simp only [execOp, h1, Instr.storeAt, Instr.sureAddr, hρ, Sem.run_bind, Sem.run_pure, Result.andThen_ok, storeVar, kt.run_size, hsz, ne_eq, not_true_eq_false, if_false, hst]
        obtain ⟨S1, r1, hle⟩ := Rel.fill S rel k5 k6 k7 (Changed.row k3 (a.eval v).cells)
        refine wp_of_next hr rfl ?_
        rw [h2]
        have hval := hcv _ hle b (Phi.cst_same _ _ _ k6)
        have same : ∀ t' : Nat, (a.put none undef).tmps.getD t' undef = a.tmps.getD t' undef := fun _ => rfl
        refine iopsC_sound hT hclk r none (some t :: loc) l' (u :: st) (putD fr (cDst π (some t)) u) _ _ (a.put none undef) _ hl' hi1 S1 r1 ?_ ?_ hnt trivial hQ
        · intro t' j y hj hy
          by_cases e' : t' = t
          · subst e'
            have hcd : cDst π (some t') = some j := hj
            rw [hcd] at hy
            have hy' : (lset fr j u)[j]? = some y := hy
            rw [lset_eq, List.getElem?_set] at hy'
            simp only [if_true] at hy'
            split at hy'
            · cases hy'; rw [same, k2]; exact hval
            · cases hy'
          · refine (hf t' j y hj ?_).mono hle
            cases hcd : cDst π (some t) with
            | none => rw [hcd] at hy; exact hy
            | some j' =>
              rw [hcd] at hy
              have hy' : (lset fr j' u)[j]? = some y := hy
              rw [lset_eq, List.getElem?_set_ne] at hy'
              · exact hy'
              · rintro rfl
                have h6 := idx_get hj
                rw [idx_get (show idx t π 0 = some _ from hcd)] at h6
                cases h6
                exact e' rfl
        · intro t' i y hi' hy
          rw [idxL_cons] at hi'
          split at hi'
          · rename_i e'
            cases e'
            cases hi'
            simp only [List.getElem?_cons_zero, Option.some.injEq] at hy
            subst hy
            rw [same, k2]; exact hval
          · obtain ⟨i', hi'', rfl⟩ := Option.map_eq_some_iff.1 hi'
            exact (hl t' i' y hi'' (by simpa using hy)).mono hle
      | mid t e po h1 h2 h3 =>
        obtain ⟨b, zc, ti', k1, k2, k3, k4, k5, k6, k7, k8, k9, k10⟩ := hp
        obtain ⟨q, hq, hi1⟩ := ob_some.1 (show ob (opDo cl st fr h (.p po) none) (fun p => iops cl l' (p.1 :: st) (putD fr (cDst π o.dst) p.1) p.2) = some s from hi)
        obtain ⟨v, hv'⟩ := q
        obtain ⟨b', hb', hq1⟩ := ob_some.1 hq
        cases hb'
        obtain ⟨u, hu, hq2⟩ := ob_some.1 (show ob (pop st fr po) (fun v => ok v h) = some (v, hv') from hq1)
        cases hq2
        obtain ⟨rv, hr, hcv⟩ := pop_sound (w := w) hT (opnd_of hf hl _) h3 hu
        refine wp_of_next hr rfl ?_
        refine iopsC_sound hT hclk r (some (t, e)) (o.dst :: loc) l' (v :: st) (putD fr (cDst π o.dst) v) _ _ _ _ hl' hi1 S rel (hf.put hnt hds hcv) (hl.put hnt hds hcv) (by rw [put_size]; exact hnt) ?_ (fun φ' fr' h' a' w' e1 S1 R1 F1 D1 Z1 => hQ φ' fr' h' a' w' e1 S1 R1 F1 (D1.trans (put_defers _ _)) (Z1.trans (put_size _ _)))
        refine ⟨b, zc, ti', k1, ?_, k3, k4, k5, k6, k7, by rw [put_size]; exact k8, ?_, k10⟩
        · cases hd : o.dst with
          | none => exact k2
          | some d =>
            rw [hd] at hds h2
            rw [getD_put (dst_lt hnt hds), if_neg]
            · exact k2
            · rintro rfl; exact h2 rfl
        · unfold noLoc
          rw [idxL_cons, if_neg h2, noLoc_none k9]
          rfl
end
end Go.Proofs.YtmaaalpegnhjcaaDoor.Ev
