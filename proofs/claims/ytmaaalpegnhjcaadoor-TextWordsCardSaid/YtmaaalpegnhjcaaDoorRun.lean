/- The interpreter is sound: what it answers of a call is what the call does, in every order, whatever room there is. No program in sight. -/
import Derived.Test.YtmaaalpegnhjcaaDoorFuse
import Derived.LoopN
import Derived.Below
namespace Go.Proofs.YtmaaalpegnhjcaaDoor.Ev
open Go Go.RowKit
set_option linter.unusedVariables false
set_option linter.unusedSimpArgs false
def fnsT : Fns → FuncId → Option IF
  | .mk T _ => T
def fnsX : Fns → FuncId → List AV → Hp → R
  | .mk _ X => X
/-- what the tables and the calls that are answered at once must be -/
structure Env (P : Program) (A : Nat → Int) (T : Tr TI) (F : Fns) : Prop where
  tys : Tys P T
  mix : P.follows .mixedOrders = true
  fn : ∀ f i, fnsT F f = some i → ∃ fn cb acc, P.funcs[f]? = some fn ∧ compA T cb acc fn = some i ∧ (fn.name == "runtime.NumGoroutine") = false
  ext : ∀ f vs h v h', fnsX F f vs h = some (v, h') → FnOk P f ∧ (WF h → Abs (fun n => h.lo ≤ n) h h') ∧ ∀ φ w (args : Array Value), Rel A φ h w → All2 (cV A φ) vs args.toList →
    Calls P f args w (fun e w' => ∃ rv φ', e = .returned rv ∧ Step (fun n => h.lo ≤ n) φ φ' h h' w w' ∧ Rel A φ' h' w' ∧ cV A φ' v rv)
/-! ### the interpreter's own heap -/
section
variable {F : Fns} {cl : FuncId → List AV → Hp → R}
theorem Abs.trans' {h h' h'' : Hp} (a : Abs (fun n => h.lo ≤ n) h h') (b : Abs (fun n => h'.lo ≤ n) h' h'') : Abs (fun n => h.lo ≤ n) h h'' := by
  rw [a.lo] at b; exact a.trans b
theorem drDo_abs {h h' : Hp} {st fr : List AV} {es : List Ent} (k : WF h) (hcl : ClAbs cl) {op : IOp} {g : Option (Nat × Bool)} {m : Option (List Nat)} {v : AV} {e : Ent} (hv : drDo cl st fr es h op g m = some (.mk v h' e)) : Abs (fun n => h.lo ≤ n) h h' := by
  obtain ⟨b, hb, hv1⟩ := ob_some.1 hv
  cases b with
  | false =>
    have h8 : some (DR.mk .undef h (.mk [] (some []))) = some (.mk v h' e) := hv1
    simp only [Option.some.injEq, DR.mk.injEq] at h8
    rw [← h8.2.1]; exact Abs.refl _ k
  | true =>
    cases m with
    | none =>
      obtain ⟨p, hp, h8⟩ := ob_some.1 (show ob (iop cl st fr h op) (fun p => some (.mk p.1 p.2 (.mk [] (some [])))) = some (DR.mk v h' e) from hv1)
      obtain ⟨v', h''⟩ := p
      simp only [Option.some.injEq, DR.mk.injEq] at h8
      obtain ⟨rfl, rfl, h9⟩ := h8
      exact (iop_abs k hcl hp).2
    | some js =>
      obtain ⟨hid', v', h1', e', h8, h9, h10⟩ := drHead_some (show drHead cl st fr es h op js = some (.mk v h' e) from hv1)
      simp only [DR.mk.injEq] at h10
      obtain ⟨rfl, rfl, rfl⟩ := h10
      have hsub : ∀ n, inHid h.hid n = true → inHid hid' n = true := fun n hn => (sel_spec h8 n).2 (.inl hn)
      obtain ⟨a1, a2, a3, a4, a5, a6⟩ := head_abs h9 k hcl hsub
      refine ⟨⟨a1.pos, a1.top, Nat.le_trans k.lo a2, a1.fresh⟩, a2, rfl, rfl, fun n hn hv => a3 n (fun ht => ?_), a5, fun n h5 h6 => (a6 n h5 h6).2.1⟩
      rcases a4 n ht with ⟨h5, _⟩ | ⟨h5, _, h6, _⟩
      · omega
      · rcases hv with hv | hv
        · exact hv h5
        · rw [hsub n hv] at h6; cases h6
theorem dops_abs (hcl : ClAbs cl) : ∀ (l : List (IOper × Option (List Nat))) (st : List AV) (es : List Ent) (fr : List AV) (h : Hp) (s : St), WF h → dops cl l st es fr h = some s → ∃ fr' h', s = .mk fr' h' ∧ Abs (fun n => h.lo ≤ n) h h'
  | [], st, es, fr, h, s, k, hv => ⟨fr, h, (Option.some.inj hv).symm, Abs.refl _ k⟩
  | (.mk dst op g, m) :: l, st, es, fr, h, s, k, hv => by
    obtain ⟨d, hd, h1⟩ := ob_some.1 (show ob (drDo cl st fr es h op g m) (fun p => DR.casesOn (motive := fun _ => Option St) p (fun v h' e => dops cl l (v :: st) (e :: es) (putD fr dst v) h')) = some s from hv)
    cases d with
    | mk v h' e =>
      have a := drDo_abs k hcl hd
      obtain ⟨fr', h'', e', a'⟩ := dops_abs hcl l _ _ _ h' s a.wf h1
      exact ⟨fr', h'', e', a.trans' a'⟩
theorem result_some {fr : List AV} {h : Hp} {l : List IR} {v : AV} {h' : Hp} (hr : result (.mk fr h) l = some (v, h')) :
    h' = h ∧ ∃ xs, resAll fr h l = some xs ∧ ((xs = [] ∧ v = .tup []) ∨ (∃ p, xs = [p] ∧ mkAV p.1 p.2 = some v) ∨ (2 ≤ xs.length ∧ v = .tup xs)) := by
  obtain ⟨xs, hx, h1⟩ := ob_some.1 (show ob (resAll fr h l) (fun vs => List.casesOn (motive := fun _ => R) vs (ok (.tup []) h) (fun p r => List.casesOn (motive := fun _ => R) r (ob (mkAV p.1 p.2) (fun v => ok v h)) (fun _ _ => ok (.tup vs) h))) = some (v, h') from hr)
  match xs, hx, h1 with
  | [], hx, h1 => cases h1; exact ⟨rfl, [], hx, .inl ⟨rfl, rfl⟩⟩
  | [p], hx, h1 =>
    obtain ⟨u, hu, h2⟩ := ob_some.1 (show ob (mkAV p.1 p.2) (fun v => ok v h) = some (v, h') from h1)
    cases h2
    exact ⟨rfl, [p], hx, .inr (.inl ⟨p, rfl, hu⟩)⟩
  | p :: q :: r, hx, h1 => cases h1; exact ⟨rfl, _, hx, .inr (.inr ⟨by simp, rfl⟩)⟩
theorem runCl_some {ih : RC} {f : FuncId} {vs : List AV} {h h' : Hp} {v : AV} (hr : runCl F ih f vs h = some (v, h')) :
    fnsX F f vs h = some (v, h') ∨ ∃ body nargs nslots res e s, fnsT F f = some (.mk body nargs nslots res) ∧ vs.length = nargs ∧ ih body (.mk (vs ++ undefs nslots) h) = some (e, s) ∧ (e = .normal ∨ e = .ret) ∧ result s res = some (v, h') := by
  cases F with
  | mk T X =>
  have h1 : Option.rec (motive := fun _ => R) (ob (T f) (fun fn => IF.casesOn (motive := fun _ => R) fn (fun body nargs nslots res => oif (Nat.beq (llen vs) nargs) (ob (ih body (.mk (lapp vs (undefs nslots)) h)) (fun p =>
      Ex.casesOn (motive := fun _ => R) p.1 (result p.2 res) (fun _ => none) (result p.2 res))) none))) (fun r => some r) (X f vs h) = some (v, h') := hr
  cases hx : X f vs h with
  | some u =>
    rw [hx] at h1
    cases h1
    exact .inl hx
  | none =>
    rw [hx] at h1
    obtain ⟨fn, hfn, h2⟩ := ob_some.1 h1
    cases fn with
    | mk body nargs nslots res =>
    obtain ⟨h3, h4⟩ := oif_some.1 h2
    obtain ⟨p, hp, h5⟩ := ob_some.1 h4
    obtain ⟨e, s⟩ := p
    rw [nbeq, llen_eq] at h3
    rw [lapp_eq] at hp
    cases e with
    | normal => exact .inr ⟨body, nargs, nslots, res, .normal, s, hfn, h3, hp, .inl rfl, h5⟩
    | ret => exact .inr ⟨body, nargs, nslots, res, .ret, s, hfn, h3, hp, .inr rfl, h5⟩
    | exit id => cases h5
theorem run_abs (hX : ∀ f vs h v h', fnsX F f vs h = some (v, h') → WF h → Abs (fun n => h.lo ≤ n) h h') : ∀ n, (∀ c fr h e s, run F n c (.mk fr h) = some (e, s) → WF h → ∃ fr' h', s = .mk fr' h' ∧ Abs (fun n => h.lo ≤ n) h h') ∧ ClAbs (runCl F (run F n)) := by
  intro n
  have cla : ∀ n, (∀ c fr h e s, run F n c (.mk fr h) = some (e, s) → WF h → ∃ fr' h', s = .mk fr' h' ∧ Abs (fun n => h.lo ≤ n) h h') → ClAbs (runCl F (run F n)) := by
    intro n hn f vs h v h' k hr
    rcases runCl_some hr with hx | ⟨body, nargs, nslots, res, e, s, _, _, h3, _, h5⟩
    · exact hX f vs h v h' hx k
    · obtain ⟨fr', h1, rfl, a⟩ := hn _ _ _ _ _ h3 k
      obtain ⟨rfl, _⟩ := result_some h5
      exact a
  induction n with
  | zero => exact ⟨fun c fr h e s hr => (by cases hr), cla 0 (fun c fr h e s hr => by cases hr)⟩
  | succ n ih =>
    obtain ⟨ih1, ih2⟩ := ih
    have main : ∀ c fr h e s, run F (n + 1) c (.mk fr h) = some (e, s) → WF h → ∃ fr' h', s = .mk fr' h' ∧ Abs (fun n => h.lo ≤ n) h h' := by
      intro c fr h e s hr k
      have hr' : rcStep F (run F n) c (.mk fr h) = some (e, s) := hr
      cases c with
      | skip => cases hr'; exact ⟨fr, h, rfl, Abs.refl _ k⟩
      | region ops =>
        obtain ⟨s1, h1, h2⟩ := ob_some.1 (show ob (iops (runCl F (run F n)) ops [] fr h) (fun s => some (.normal, s)) = some (e, s) from hr')
        cases h2
        exact iops_abs ih2 _ _ _ _ _ k h1
      | draw ops =>
        obtain ⟨s1, h1, h2⟩ := ob_some.1 (show ob (dops (runCl F (run F n)) ops [] [] fr h) (fun s => some (.normal, s)) = some (e, s) from hr')
        cases h2
        exact dops_abs ih2 _ _ _ _ _ _ k h1
      | seq a b =>
        obtain ⟨p, h1, h2⟩ := ob_some.1 (show ob (run F n a (.mk fr h)) (fun p => Ex.casesOn (motive := fun _ => Option (Ex × St)) p.1 (run F n b p.2) (fun _ => some p) (some p)) = some (e, s) from hr')
        obtain ⟨e1, s1⟩ := p
        obtain ⟨fr', h', rfl, a1⟩ := ih1 _ _ _ _ _ h1 k
        cases e1 with
        | normal =>
          obtain ⟨fr'', h'', e2, a2⟩ := ih1 _ _ _ _ _ h2 a1.wf
          exact ⟨fr'', h'', e2, a1.trans' a2⟩
        | exit id => cases h2; exact ⟨fr', h', rfl, a1⟩
        | ret => cases h2; exact ⟨fr', h', rfl, a1⟩
      | cond c x y =>
        obtain ⟨v, h1, h2⟩ := ob_some.1 (show ob (ev [] fr c) (fun v => sBool v (fun t => run F n (oif t x y) (.mk fr h))) = some (e, s) from hr')
        obtain ⟨t, rfl, h3⟩ := sBool_some h2
        exact ih1 _ _ _ _ _ h3 k
      | block id b =>
        obtain ⟨p, h1, h2⟩ := ob_some.1 (show ob (run F n b (.mk fr h)) (fun p => Ex.casesOn (motive := fun _ => Option (Ex × St)) p.1 (some p) (fun k => oif (Nat.beq k id) (some (.normal, p.2)) (some p)) (some p)) = some (e, s) from hr')
        obtain ⟨e1, s1⟩ := p
        obtain ⟨fr', h', rfl, a1⟩ := ih1 _ _ _ _ _ h1 k
        cases e1 with
        | normal => cases h2; exact ⟨fr', h', rfl, a1⟩
        | exit j =>
          have h2' : oif (Nat.beq j id) (some (Ex.normal, St.mk fr' h')) (some (.exit j, .mk fr' h')) = some (e, s) := h2
          rw [oif_if] at h2'
          split at h2' <;> cases h2' <;> exact ⟨fr', h', rfl, a1⟩
        | ret => cases h2; exact ⟨fr', h', rfl, a1⟩
      | loop b =>
        obtain ⟨p, h1, h2⟩ := ob_some.1 (show ob (run F n b (.mk fr h)) (fun p => Ex.casesOn (motive := fun _ => Option (Ex × St)) p.1 (run F n (.loop b) p.2) (fun _ => some p) (some p)) = some (e, s) from hr')
        obtain ⟨e1, s1⟩ := p
        obtain ⟨fr', h', rfl, a1⟩ := ih1 _ _ _ _ _ h1 k
        cases e1 with
        | normal =>
          obtain ⟨fr'', h'', e2, a2⟩ := ih1 _ _ _ _ _ h2 a1.wf
          exact ⟨fr'', h'', e2, a1.trans' a2⟩
        | exit id => cases h2; exact ⟨fr', h', rfl, a1⟩
        | ret => cases h2; exact ⟨fr', h', rfl, a1⟩
      | exit id => cases hr'; exact ⟨fr, h, rfl, Abs.refl _ k⟩
      | ret => cases hr'; exact ⟨fr, h, rfl, Abs.refl _ k⟩
    exact ⟨main, cla (n + 1) main⟩
end
/-! ### a region in its text's order -/
section
variable {P : Program} {A : Nat → Int} {T : Tr TI} {π : List Nat} {nt : Nat} {ops : Array Oper} {cl : FuncId → List AV → Hp → R}
theorem Step.trans' {φ ψ χ : Phi} {h h' h'' : Hp} {w w' w'' : World} (s : Step (fun n => h.lo ≤ n) φ ψ h h' w w') (t : Step (fun n => h'.lo ≤ n) ψ χ h' h'' w' w'') : Step (fun n => h.lo ≤ n) φ χ h h'' w w'' := by
  rw [s.abs.lo] at t; exact s.trans t
theorem iops_sound (hT : Tys P T) (hclk : ClOk P A cl) {Q : Exit → Act → World → Prop} : ∀ (r : List Oper) (k : Nat) (l : List IOper) (st fr : List AV) (h : Hp) (s : St) (φ : Phi) (a : Act) (w : World), (∀ j o, r[j]? = some o → ops[k + j]? = some o) → k + r.length = ops.size →
    cRegion T π nt (revOf (dD ops) k) k r = some l → iops cl l st fr h = some s → Rel A φ h w → FrR A φ π fr a → LoR A φ (revOf (dD ops) k) st a → nt ≤ a.tmps.size → (∀ j d, j < k → dD ops j = some d → d < a.tmps.size) →
    (∀ φ' fr' h' a' w', s = .mk fr' h' → Step (fun n => h.lo ≤ n) φ φ' h h' w w' → Rel A φ' h' w' → FrR A φ' π fr' a' → a'.defers = a.defers → a'.tmps.size = a.tmps.size → Q .normal a' w') →
    wpOps P ops Q (List.range' k r.length) a w
  | [], k, l, st, fr, h, s, φ, a, w, hr, hk, hc, hi, rel, hf, hl, hnt, hd, hQ => by
    cases hc
    exact hQ φ fr h a w (Option.some.inj (show some (St.mk fr h) = some s from hi)).symm (Step.refl _ rel rfl rfl rfl rfl) rel hf rfl rfl
  | o :: r, k, l, st, fr, h, s, φ, a, w, hr, hk, hc, hi, rel, hf, hl, hnt, hd, hQ => by
    have ho : ops[k]? = some o := hr 0 o rfl
    have hoAt : opAt ops k = o := by simp [opAt, Array.getD_eq_getD_getElem?, ho]
    have hdk : dD ops k = o.dst := by unfold dD; rw [hoAt]
    simp only [cRegion] at hc
    split at hc
    · rename_i ip l' hip hl'
      cases hc
      obtain ⟨hds, op, g, rfl, hop, hg⟩ := cOper_some hip
      obtain ⟨p, hp, hi1⟩ := ob_some.1 (show ob (opDo cl st fr h op g) (fun p => iops cl l' (p.1 :: st) (putD fr (cDst π o.dst) p.1) p.2) = some s from hi)
      obtain ⟨v, h1⟩ := p
      obtain ⟨b, hb, hp1⟩ := ob_some.1 hp
      have hwant : Region.wanted o (yielded ops a.tmps) = b := by
        refine guard_sound (φ := φ) (A := A) (loc := revOf (dD ops) k) (st := st) (k := k) (fun j hj => ?_) (fun j d hj hjd => ?_) (fun j want d v _ hjd hjv => hl d _ v hjd hjv) hg hb
        · rw [revOf_at (dD ops) hj]
          have : ops[j]? = some (opAt ops j) := by
            have : j < ops.size := by simp at hk; omega
            simp [opAt, Array.getD_eq_getD_getElem?, this]
          rw [this]; rfl
        · rw [revOf_at (dD ops) hj] at hjd
          exact hd j d hj (Option.some.inj hjd)
      have next : ∀ φ' rv w', Step (fun n => h.lo ≤ n) φ φ' h h1 w w' → Rel A φ' h1 w' → cV A φ' v rv → wpOps P ops Q (List.range' (k + 1) r.length) (a.put o.dst rv) w' := by
        intro φ' rv w' s1 r1 hcv
        have hle := s1.le rel
        refine iops_sound hT hclk r (k + 1) l' (v :: st) (putD fr (cDst π o.dst) v) h1 s φ' (a.put o.dst rv) w' (fun j o' hj => by have := hr (j + 1) o' (by simpa using hj); rw [← this]; congr 1; omega) (by simp at hk; omega) ?_ hi1 r1 ((hf.mono hle).put hnt hds hcv) ?_ (by rw [put_size]; exact hnt) (fun j d hj hjd => ?_) (fun φ'' fr' h' a' w'' e s2 r2 f2 d2 z2 => ?_)
        · show cRegion T π nt (dD ops k :: revOf (dD ops) k) (k + 1) r = some l'
          rw [hdk]; exact hl'
        · show LoR A φ' (dD ops k :: revOf (dD ops) k) (v :: st) (a.put o.dst rv)
          rw [hdk]; exact (hl.mono hle).put hnt hds hcv
        · rw [put_size]
          rcases Nat.lt_succ_iff_lt_or_eq.1 hj with h2 | h2
          · exact hd j d h2 hjd
          · subst h2
            rw [hdk] at hjd
            rw [hjd] at hds
            have : Nat.ble (d + 1) nt = true := hds
            exact Nat.lt_of_lt_of_le (Nat.le_of_ble_eq_true this) hnt
        · exact hQ φ'' fr' h' a' w'' e (s1.trans' s2) r2 f2 (d2.trans (put_defers _ _)) (z2.trans (put_size _ _))
      simp only [List.length_cons, List.range'_succ, wpOps, ho]
      rw [hwant]
      cases b with
      | false =>
        simp only [Bool.false_eq_true, if_false]
        cases hp1
        exact next φ undef w (Step.refl _ rel rfl rfl rfl rfl) rel rfl
      | true =>
        simp only [if_true]
        exact .inl (op_sound (cl := cl) hT hclk (opnd_of hf hl _) rel hop hp1 _ (.inr rfl) (fun φ' rv w' s1 r1 hcv => next φ' rv w' s1 r1 hcv))
    · cases hc
end
/-! ### the whole -/
section
variable {P : Program} {A : Nat → Int} {T : Tr TI} {F : Fns}
def exOf : Ex → Exit
  | .normal => .normal
  | .exit id => .exit id
  | .ret => .ret
def Post (A : Nat → Int) (π : List Nat) (φ : Phi) (h : Hp) (w : World) (a : Act) (e : Ex) (s : St) (Q : Exit → Act → World → Prop) : Prop :=
  ∀ φ' fr' h' a' w', s = .mk fr' h' → Step (fun n => h.lo ≤ n) φ φ' h h' w w' → Rel A φ' h' w' → FrR A φ' π fr' a' → a'.defers = a.defers → a'.tmps.size = a.tmps.size → Q (exOf e) a' w'
theorem Post.trans {π : List Nat} {φ ψ : Phi} {h h' : Hp} {w w' : World} {a a' : Act} {e : Ex} {s : St} {Q : Exit → Act → World → Prop} (k : Post A π φ h w a e s Q) (st : Step (fun n => h.lo ≤ n) φ ψ h h' w w') (hd : a'.defers = a.defers) (hs : a'.tmps.size = a.tmps.size) : Post A π ψ h' w' a' e s Q :=
  fun φ' fr' h'' a'' w'' e1 s1 r1 f1 d1 z1 => k φ' fr' h'' a'' w'' e1 (st.trans' s1) r1 f1 (d1.trans hd) (z1.trans hs)
def Sound (P : Program) (A : Nat → Int) (T : Tr TI) (F : Fns) (n : Nat) : Prop :=
  ∀ ic fr h e s, run F n ic (.mk fr h) = some (e, s) → ∀ code cb π nt, cCode T cb π nt code = some ic → ∀ φ a w, Rel A φ h w → FrR A φ π fr a → nt ≤ a.tmps.size → ∀ Q, Post A π φ h w a e s Q → code.wp P Q a w
def SoundL (P : Program) (A : Nat → Int) (T : Tr TI) (F : Fns) (n : Nat) : Prop :=
  ∀ ib fr h e s, run F n (.loop ib) (.mk fr h) = some (e, s) → ∀ code cb π nt, cCode T cb π nt code = some ib → ∀ φ a w, Rel A φ h w → FrR A φ π fr a → nt ≤ a.tmps.size → ∀ Q, Post A π φ h w a e s Q → Code.rounds P code Q n a w
theorem undefs_get : ∀ (n j : Nat) (v : AV), (undefs n)[j]? = some v → v = .undef
  | 0, j, v, h => by
    have : undefs 0 = [] := rfl
    rw [this] at h; simp at h
  | n + 1, 0, v, h => by
    have : undefs (n + 1) = .undef :: undefs n := rfl
    rw [this] at h; simpa using h.symm
  | n + 1, j + 1, v, h => by
    have : undefs (n + 1) = .undef :: undefs n := rfl
    rw [this] at h; exact undefs_get n j v (by simpa using h)
theorem upTo_idx : ∀ (n k : Nat) (r : List Nat) (t : Nat), k ≤ t → t < k + n → idx t (upTo k n ++ r) 0 = some (t - k)
  | 0, k, r, t, h1, h2 => by omega
  | n + 1, k, r, t, h1, h2 => by
    simp only [upTo, List.cons_append, idx]
    by_cases e : k = t
    · subst e; rw [Nat.beq_refl]; simp
    · have : Nat.beq k t = false := by
        cases hb : Nat.beq k t with
        | false => rfl
        | true => exact absurd (Nat.eq_of_beq_eq_true hb) e
      rw [this]
      simp only [cond_false]
      rw [idx_shift, upTo_idx n (k + 1) r t (by omega) (by omega)]
      simp
      omega
theorem upTo_len : ∀ n k, (upTo k n).length = n
  | 0, k => rfl
  | n + 1, k => by simp [upTo, upTo_len n]
theorem res_sound {π : List Nat} {fr : List AV} {φ : Phi} {h : Hp} {w : World} {a : Act} (hT : Tys P T) (rel : Rel A φ h w) (hf : FrR A φ π fr a) : ∀ (rs : List ResultVar) (l : List IR) (xs : List (Bool × List SV)), cRes T π rs = some l → resAll fr h l = some xs →
    ∃ vs : List Value, (rs.mapM (fun | .tmp t => pure (a.tmps.getD t undef) | .cell q t => do loadVar t (← asAddr (a.tmps.getD q undef)) : ResultVar → Sem Value)).run P w = .ok vs w ∧ All2 (fun p x => cV1 A φ p.1 p.2 x) xs vs
  | [], l, xs, h1, h2 => by
    cases h1
    cases h2
    exact ⟨[], rfl, .nil⟩
  | .tmp t :: rs, l, xs, h1, h2 => by
    simp only [cRes] at h1
    split at h1
    · rename_i j l' hj hl'
      cases h1
      obtain ⟨x, hx, h3⟩ := ob_some.1 (show ob (resOf fr h (.tmp j)) (fun v => ob (resAll fr h l') (fun x => some (v :: x))) = some xs from h2)
      obtain ⟨ys, hys, h4⟩ := ob_some.1 h3
      cases h4
      obtain ⟨vs, hvs, ha⟩ := res_sound hT rel hf rs l' ys hl' hys
      obtain ⟨v, hv, h5⟩ := ob_some.1 (show ob (lget fr j) (fun v => AV.casesOn (motive := fun _ => Option (Bool × List SV)) v (fun s => some (false, [s])) (fun l => some (true, l)) (fun _ => none) none none) = some x from hx)
      rw [lget_eq] at hv
      have hc := hf t j v hj hv
      refine ⟨a.tmps.getD t undef :: vs, by simp only [List.mapM_cons, Sem.run_bind, Sem.run_pure, Result.andThen_ok, hvs], .cons ?_ ha⟩
      cases v with
      | s y => cases h5; exact ⟨y, rfl, hc⟩
      | agg l => cases h5; exact hc
      | _ => cases h5
    · cases h1
  | .cell q t :: rs, l, xs, h1, h2 => by
    simp only [cRes] at h1
    split at h1
    · rename_i j ti l' hj hti hl'
      cases hb : ti1 ti with
      | false => rw [hb] at h1; cases h1
      | true =>
        rw [hb] at h1
        cases h1
        obtain ⟨x, hx, h3⟩ := ob_some.1 (show ob (resOf fr h (.cell j ti.size ti.agg)) (fun v => ob (resAll fr h l') (fun x => some (v :: x))) = some xs from h2)
        obtain ⟨ys, hys, h4⟩ := ob_some.1 h3
        cases h4
        obtain ⟨vs, hvs, ha⟩ := res_sound hT rel hf rs l' ys hl' hys
        obtain ⟨v, hv, h5⟩ := ob_some.1 (show ob (lget fr j) (fun v => sPtr v (fun b off => ob (rd h b off ti.size) (fun cs => some (ti.agg, cs)))) = some x from hx)
        obtain ⟨b, off, rfl, h6⟩ := sPtr_some h5
        obtain ⟨cs, hcs, h7⟩ := ob_some.1 h6
        cases h7
        rw [lget_eq] at hv
        obtain ⟨lc, hlc, hval⟩ := (show cPtr φ b off (a.tmps.getD q undef) from hf q j _ hj hv)
        obtain ⟨lc', us, e1, _, e2, e3, e4⟩ := rd_sound rel hcs
        rw [hlc] at e1
        cases e1
        have kt := hT t ti hti
        cases hag : ti.agg with
        | true =>
          have hl := run_loadCells_list (P := P) w ⟨lc.b, lc.o + off, none⟩ us (fun j u hj => by rw [addr_add]; exact e4 j u hj)
          rw [e3] at hl
          have hcell : (do loadVar t (← asAddr (a.tmps.getD q undef)) : Sem Value).run P w = .ok (.agg us.toArray) w := by
            simp only [Sem.run_bind, Sem.run_pure, Result.andThen_ok, hval, asAddr, loadVar, kt.run_agg, hag, if_true, kt.run_size, hl]
          refine ⟨.agg us.toArray :: vs, ?_, .cons ?_ ha⟩
          · rw [List.mapM_cons, Sem.run_bind]
            show Result.andThen ((do loadVar t (← asAddr (a.tmps.getD q undef)) : Sem Value).run P w) _ = _
            rw [hcell]
            simp only [Result.andThen_ok, Sem.run_bind, hvs, Sem.run_pure]
          · exact ⟨us, rfl, e2⟩
        | false =>
          have hsz : ti.size = 1 := by
            simp only [ti1, hag, Bool.false_or, nbeq] at hb; exact hb
          rw [hsz] at e3
          match us, e3, e2, e4 with
          | [u], _, e2, e4 =>
            have h8 := e4 0 u rfl
            rw [Nat.add_zero] at h8
            cases e2 with
            | @cons s _ _ _ hs hn =>
              cases hn
              have hcell : (do loadVar t (← asAddr (a.tmps.getD q undef)) : Sem Value).run P w = .ok u w := by
                simp only [Sem.run_bind, Sem.run_pure, Result.andThen_ok, hval, asAddr, loadVar, kt.run_agg, hag, Bool.false_eq_true, if_false, run_load, h8]
              refine ⟨u :: vs, ?_, .cons ?_ ha⟩
              · rw [List.mapM_cons, Sem.run_bind]
                show Result.andThen ((do loadVar t (← asAddr (a.tmps.getD q undef)) : Sem Value).run P w) _ = _
                rw [hcell]
                simp only [Result.andThen_ok, Sem.run_bind, hvs, Sem.run_pure]
              · exact ⟨s, rfl, hs⟩
    · cases h1
theorem cl_of_sound (env : Env P A T F) {n : Nat} (hs : Sound P A T F n) : ClOk P A (runCl F (run F n)) := by
  intro f vs h v0 h' hr
  have hT0 := env.tys
  rcases runCl_some hr with hx | ⟨body, nargs, nslots, res, e, s, hT, hlen, hrun, he, hres⟩
  · obtain ⟨h1, _, h2⟩ := env.ext f vs h v0 h' hx
    exact ⟨h1, h2⟩
  · obtain ⟨fn, cb, acc, h1, h2, h3⟩ := env.fn f _ hT
    unfold compA at h2
    split at h2
    · cases h2
    · rename_i b hb
      dsimp only at h2
      split at h2
      · rename_i c r hc hr'
        cases h2
        refine ⟨⟨fn, h1, by rw [hb]; rfl, h3⟩, fun φ w args rel ha => ?_⟩
        have hal := ha.len
        simp only [Array.length_toList] at hal
        refine calls_of_wp h1 hb ?_
        refine hs _ _ _ _ _ hrun b _ _ _ hc φ _ w rel ?_ ?_ _ ?_
        · intro t j u hj hu
          rw [List.getElem?_append] at hu
          split at hu
          · rename_i hlt
            have hjn : j < fn.params.size + fn.nfree := by omega
            have : t = j := by
              have h4 := idx_get hj
              rw [List.getElem?_append_left (by rw [upTo_len]; exact hjn)] at h4
              have h5 := upTo_idx (fn.params.size + fn.nfree) 0 [] j (by omega) (by omega)
              rw [List.append_nil] at h5
              have h6 := idx_get h5
              rw [Nat.sub_zero, h4] at h6
              exact Option.some.inj h6
            subst this
            obtain ⟨x, hx, hcx⟩ := ha.get t u hu
            rw [Array.getElem?_toList] at hx
            have : (args ++ Array.replicate (fn.ntmps - args.size) undef).getD t undef = x := by
              rw [Array.getD_eq_getD_getElem?, Array.getElem?_append_left (by omega), hx]; rfl
            show cV A φ u ((args ++ Array.replicate (fn.ntmps - args.size) undef).getD t undef)
            rw [this]
            exact hcx
          · rename_i hge
            obtain rfl := undefs_get _ _ _ hu
            have htn : fn.params.size + fn.nfree ≤ t := by
              rcases Nat.lt_or_ge t (fn.params.size + fn.nfree) with h4 | h4
              · rw [upTo_idx _ 0 _ t (by omega) (by omega)] at hj
                have : t - 0 = j := Option.some.inj hj
                omega
              · exact h4
            show (args ++ Array.replicate (fn.ntmps - args.size) undef).getD t undef = undef
            rw [Array.getD_eq_getD_getElem?, Array.getElem?_append_right (by omega)]
            rw [Array.getElem?_replicate]
            split <;> rfl
        · simp
          omega
        · intro φ' fr' h'' a' w' es st r1 f1 d1 z1
          subst es
          obtain ⟨rfl, xs, hxs, hcase⟩ := result_some hres
          obtain ⟨us, hus, hall⟩ := res_sound hT0 r1 f1 fn.results.toList _ xs hr' hxs
          have hrun' : ∀ v', (if h : us.toArray.size = 1 then us.toArray[0] else .tuple us.toArray) = v' → (results fn a'.tmps).run P w' = .ok v' w' := by
            intro v' hv'
            unfold results
            have e1 : fn.results = fn.results.toList.toArray := by simp
            rw [e1]
            simp only [List.mapM_toArray, Sem.run_bind, Sem.run_map]
            erw [hus]
            simp only [Result.andThen_ok, Sem.run_pure, hv']
          have hfin : ∃ v', (results fn a'.tmps).run P w' = .ok v' w' ∧ cV A φ' v0 v' := by
            have hlen' := hall.len
            rcases hcase with ⟨rfl, rfl⟩ | ⟨p, rfl, hmk⟩ | ⟨h2x, rfl⟩
            · cases hall
              exact ⟨_, hrun' _ rfl, ⟨[], rfl, .nil⟩⟩
            · cases hall with
              | @cons _ u _ _ hu hn =>
                cases hn
                refine ⟨u, hrun' u rfl, ?_⟩
                unfold cV1 at hu
                rcases mkAV_some hmk with ⟨e2, rfl⟩ | ⟨e2, y, hy, rfl⟩
                · rw [if_pos e2] at hu; exact hu
                · rw [e2] at hu
                  simp only [Bool.false_eq_true, if_false] at hu
                  obtain ⟨y', h5, h6⟩ := hu
                  rw [hy] at h5
                  cases h5
                  exact h6
            · refine ⟨.tuple us.toArray, hrun' _ ?_, ⟨us, rfl, hall⟩⟩
              rw [dif_neg]
              simp only [List.size_toArray]
              omega
          obtain ⟨v', hv1, hv2⟩ := hfin
          have hbp : a'.defers = [] ∧ ∃ v, (results fn a'.tmps).run P w' = .ok v w' ∧ ∃ rv φ'', Ending.returned v = .returned rv ∧ Step (fun n => h.lo ≤ n) φ φ'' h h' w w' ∧ Rel A φ'' h' w' ∧ cV A φ'' v0 rv := ⟨d1, v', hv1, v', φ', rfl, st, r1, hv2⟩
          rcases he with rfl | rfl
          · exact hbp
          · exact hbp
      · cases h2
theorem sound_all (env : Env P A T F) : ∀ n, Sound P A T F n ∧ SoundL P A T F n := by
  intro n
  induction n with
  | zero => exact ⟨fun ic fr h e s hr => (by cases hr), fun ic fr h e s hr => (by cases hr)⟩
  | succ n ih =>
    obtain ⟨ih1, ih2⟩ := ih
    have hcl := cl_of_sound env ih1
    have habs := (run_abs (F := F) (fun f vs h v h' hx => (env.ext f vs h v h' hx).2.1) n).2
    have hL : SoundL P A T F (n + 1) := by
      intro ib fr h e s hr code cb π nt hc φ a w rel hf hnt Q hQ
      obtain ⟨p, h1, h2⟩ := ob_some.1 (show ob (run F n ib (.mk fr h)) (fun p => Ex.casesOn (motive := fun _ => Option (Ex × St)) p.1 (run F n (.loop ib) p.2) (fun _ => some p) (some p)) = some (e, s) from hr)
      obtain ⟨e1, s1⟩ := p
      rw [rounds_succ]
      refine ih1 _ _ _ _ _ h1 code cb π nt hc φ a w rel hf hnt _ ?_
      intro φ' fr' h' a' w' es st r1 f1 d1 z1
      subst es
      cases e1 with
      | normal => exact ih2 _ _ _ _ _ h2 code cb π nt hc φ' a' w' r1 f1 (by rw [z1]; exact hnt) Q (hQ.trans st d1 z1)
      | exit id => cases h2; exact hQ φ' fr' h' a' w' rfl st r1 f1 d1 z1
      | ret => cases h2; exact hQ φ' fr' h' a' w' rfl st r1 f1 d1 z1
    refine ⟨?_, hL⟩
    intro ic fr h e s hr code cb π nt hc φ a w rel hf hnt Q hQ
    cases code with
    | skip =>
      cases hc
      cases hr
      exact wp_skip (hQ φ fr h a w rfl (Step.refl _ rel rfl rfl rfl rfl) rel hf rfl rfl)
    | region id ops draw =>
      cases draw with
      | false =>
        have hrange : List.range ops.size = List.range' 0 ops.toList.length := by rw [List.range_eq_range']; simp
        cases hC : hasC cb ops.toList with
        | true =>
          have hc' : (bif hasC cb ops.toList then (cRegionC T cb π nt none [] ops.toList).map IC.region else (cRegion T π nt [] 0 ops.toList).map IC.region) = some ic := hc
          rw [hC] at hc'
          obtain ⟨l, hl, e⟩ := Option.map_eq_some_iff.1 (show (cRegionC T cb π nt none [] ops.toList).map .region = some ic from hc')
          subst e
          obtain ⟨s1, h1, h2⟩ := ob_some.1 (show ob (iops (runCl F (run F n)) l [] fr h) (fun s => some (.normal, s)) = some (e, s) from hr)
          cases h2
          refine wp_region_list ?_
          refine iopsC_sound env.tys hcl ops.toList none [] l [] fr h φ a w hl h1 (Step.refl _ rel rfl rfl rfl rfl) rel hf (fun t i v hi => by cases hi) hnt trivial ?_
          intro φ' fr' h' a' w' es st r1 f1 d1 z1
          exact hQ φ' fr' h' a' w' es st r1 f1 d1 z1
        | false =>
          have hc' : (bif hasC cb ops.toList then (cRegionC T cb π nt none [] ops.toList).map IC.region else (cRegion T π nt [] 0 ops.toList).map IC.region) = some ic := hc
          rw [hC] at hc'
          obtain ⟨l, hl, e⟩ := Option.map_eq_some_iff.1 (show (cRegion T π nt [] 0 ops.toList).map .region = some ic from hc')
          subst e
          obtain ⟨s1, h1, h2⟩ := ob_some.1 (show ob (iops (runCl F (run F n)) l [] fr h) (fun s => some (.normal, s)) = some (e, s) from hr)
          cases h2
          refine wp_region ?_
          rw [hrange]
          refine iops_sound env.tys hcl ops.toList 0 l [] fr h _ φ a w (fun j o hj => by rw [Nat.zero_add, ← Array.getElem?_toList]; exact hj) (by simp) hl h1 rel hf (fun t i v hi => by cases hi) hnt (fun j d hj => by omega) ?_
          intro φ' fr' h' a' w' es st r1 f1 d1 z1
          exact hQ φ' fr' h' a' w' es st r1 f1 d1 z1
      | true =>
        obtain ⟨l, hl, e⟩ := Option.map_eq_some_iff.1 (show (cDraw T π nt ops.toList).map .draw = some ic from hc)
        subst e
        obtain ⟨s1, h1, h2⟩ := ob_some.1 (show ob (dops (runCl F (run F n)) l [] [] fr h) (fun s => some (.normal, s)) = some (e, s) from hr)
        cases h2
        exact draw_sound env.mix env.tys hcl habs hl h1 rel hf hnt (fun φ' fr' h' a' w' es st r1 f1 d1 z1 => hQ φ' fr' h' a' w' es st r1 f1 d1 z1)
    | seq x y =>
      simp only [cCode] at hc
      split at hc
      · rename_i cx cy hx hy
        cases hc
        obtain ⟨p, h1, h2⟩ := ob_some.1 (show ob (run F n cx (.mk fr h)) (fun p => Ex.casesOn (motive := fun _ => Option (Ex × St)) p.1 (run F n cy p.2) (fun _ => some p) (some p)) = some (e, s) from hr)
        obtain ⟨e1, s1⟩ := p
        refine wp_seq (ih1 _ _ _ _ _ h1 x cb π nt hx φ a w rel hf hnt _ ?_)
        intro φ' fr' h' a' w' es st r1 f1 d1 z1
        subst es
        cases e1 with
        | normal => exact ih1 _ _ _ _ _ h2 y cb π nt hy φ' a' w' r1 f1 (by rw [z1]; exact hnt) Q (hQ.trans st d1 z1)
        | exit id => cases h2; exact hQ φ' fr' h' a' w' rfl st r1 f1 d1 z1
        | ret => cases h2; exact hQ φ' fr' h' a' w' rfl st r1 f1 d1 z1
      · cases hc
    | cond c x y =>
      simp only [cCode] at hc
      split at hc
      · rename_i c' cx cy hc' hx hy
        cases hc
        obtain ⟨v, h1, h2⟩ := ob_some.1 (show ob (ev [] fr c') (fun v => sBool v (fun t => run F n (oif t cx cy) (.mk fr h))) = some (e, s) from hr)
        obtain ⟨t, rfl, h3⟩ := sBool_some h2
        have hE := opnd_of (A := A) (φ := φ) (loc := []) (st := []) hf (fun t i v hi => by cases hi) [c]
        have hcv : a.eval c = .bool t := hE c (by simp) _ _ hc' h1
        refine wp_cond hcv ?_
        rw [oif_if] at h3
        cases t with
        | true => exact ih1 _ _ _ _ _ h3 x cb π nt hx φ a w rel hf hnt Q hQ
        | false => exact ih1 _ _ _ _ _ h3 y cb π nt hy φ a w rel hf hnt Q hQ
      · cases hc
    | block id b =>
      obtain ⟨ib, hb, e⟩ := Option.map_eq_some_iff.1 (show (cCode T cb π nt b).map (.block id) = some ic from hc)
      subst e
      obtain ⟨p, h1, h2⟩ := ob_some.1 (show ob (run F n ib (.mk fr h)) (fun p => Ex.casesOn (motive := fun _ => Option (Ex × St)) p.1 (some p) (fun k => oif (Nat.beq k id) (some (.normal, p.2)) (some p)) (some p)) = some (e, s) from hr)
      obtain ⟨e1, s1⟩ := p
      refine wp_block (ih1 _ _ _ _ _ h1 b cb π nt hb φ a w rel hf hnt _ ?_)
      intro φ' fr' h' a' w' es st r1 f1 d1 z1
      subst es
      cases e1 with
      | normal => cases h2; exact hQ φ' fr' h' a' w' rfl st r1 f1 d1 z1
      | exit j =>
        have h2' : oif (Nat.beq j id) (some (Ex.normal, St.mk fr' h')) (some (.exit j, .mk fr' h')) = some (e, s) := h2
        rw [oif_if] at h2'
        show if j = id then Q .normal a' w' else Q (.exit j) a' w'
        split at h2'
        · rename_i hj
          rw [nbeq] at hj
          cases h2'
          rw [if_pos hj]
          exact hQ φ' fr' h' a' w' rfl st r1 f1 d1 z1
        · rename_i hj
          rw [nbeq] at hj
          cases h2'
          rw [if_neg hj]
          exact hQ φ' fr' h' a' w' rfl st r1 f1 d1 z1
      | ret => cases h2; exact hQ φ' fr' h' a' w' rfl st r1 f1 d1 z1
    | loop b =>
      obtain ⟨ib, hb, e⟩ := Option.map_eq_some_iff.1 (show (cCode T cb π nt b).map .loop = some ic from hc)
      subst e
      exact wp_loop_rounds (n + 1) (hL _ _ _ _ _ hr b cb π nt hb φ a w rel hf hnt Q hQ)
    | exit id =>
      cases hc
      cases hr
      exact wp_exit (hQ φ fr h a w rfl (Step.refl _ rel rfl rfl rfl rfl) rel hf rfl rfl)
    | ret =>
      cases hc
      cases hr
      exact wp_ret (hQ φ fr h a w rfl (Step.refl _ rel rfl rfl rfl rfl) rel hf rfl rfl)
    | _ => cases hc
/-- the heap at the beginning of a call -/
def h0 : Hp := .mk 1 .leaf 0 []
/-- no names; blocks that stay -/
def kPhi (k : Nat → Option (Array Value)) [g : GK k] : Phi := ⟨fun _ => none, k, g⟩
/-- blocks that stay, in a world -/
def ConOk (k : Nat → Option (Array Value)) (w : World) : Prop := ∀ b cs, k b = some cs → ∃ ty : TypeId × Nat × Nat, w.heap[b]? = some (.cells cs ty.1 ty.2)
theorem conOk_none (w : World) : ConOk (fun _ => none) w := fun b cs e => by cases e
theorem rel_h0 {k : Nat → Option (Array Value)} [GK k] {w : World} (hk : ConOk k w) : Rel A (kPhi k) h0 w := by
  have hget : ∀ n, h0.get n = none := fun n => rfl
  refine ⟨⟨Nat.le_refl _, by decide, Nat.zero_le _, fun n _ => rfl⟩, fun n _ => rfl, fun n x hx => ?_, fun n m l l' hn => ?_, hk, fun n L hn => ?_⟩
  · rw [hget] at hx; cases hx
  · rw [hget] at hn; cases hn
  · rw [hget] at hn; cases hn
/-- what a run says of the call: what it returns; and that all memory is as it was -/
theorem run_step (env : Env P A T F) {n : Nat} {f : FuncId} {vs : List AV} {v : AV} {h' : Hp} (hr : runFn F n f vs h0 = some (v, h')) {k : Nat → Option (Array Value)} [GK k] {w : World} (hk : ConOk k w) (args : Array Value) (ha : All2 (cV A (kPhi k)) vs args.toList) :
    Calls P f args w (fun e w' => ∃ rv φ, e = .returned rv ∧ Step (fun _ => False) (kPhi k) φ h0 h' w w' ∧ Rel A φ h' w' ∧ cV A φ v rv) := by
  have hcl := cl_of_sound env (sound_all env n).1
  refine Calls.mono ((hcl f vs h0 v h' hr).2 _ w args (rel_h0 hk) ha) ?_
  rintro e w' ⟨rv, φ', rfl, s, r, hcv⟩
  refine ⟨rv, φ', rfl, ⟨⟨s.abs.wf, s.abs.nx, s.abs.lo, s.abs.hid, fun n hn _ => ?_, s.abs.live, s.abs.seen⟩, s.ext, s.kle, s.knew, s.os, s.tape, s.output, s.size, fun p hp _ => s.old p hp (fun n l _ hn => ?_), fun n L hn hl hL => .inl ?_⟩, r, hcv⟩
  · cases h5 : h'.tr.get n with
    | none => rfl
    | some x =>
      have := s.abs.live n hn (by rw [h5]; rfl)
      cases this
  · have h1 : h0.get n = none := rfl
    rw [h1] at hn; cases hn
  · rcases s.new n L hn hl hL with h1 | ⟨m, M, _, h2, _⟩
    · exact h1
    · have h1 : h0.get m = none := rfl
      rw [h1] at h2; cases h2
theorem run_calls (env : Env P A T F) {n : Nat} {f : FuncId} {vs : List AV} {v : AV} {h' : Hp} (hr : runFn F n f vs h0 = some (v, h')) {k : Nat → Option (Array Value)} [GK k] {w : World} (hk : ConOk k w) (args : Array Value) (ha : All2 (cV A (kPhi k)) vs args.toList) :
    Calls P f args w (fun e w' => ∃ rv φ, e = .returned rv ∧ Below w.heap.size w w' ∧ cV A φ v rv) := by
  refine Calls.mono (run_step env hr hk args ha) ?_
  rintro e w' ⟨rv, φ', rfl, s, r, hcv⟩
  exact ⟨rv, φ', rfl, ⟨s.os, s.tape, s.output, s.size, fun k hk => s.old k hk (fun n l h _ => h.elim)⟩, hcv⟩
def isTrue : R → Bool
  | some (.s (.bool b), _) => b
  | _ => false
theorem run_true (env : Env P A T F) {n : Nat} {f : FuncId} {vs : List AV} (hr : isTrue (runFn F n f vs h0) = true) {k : Nat → Option (Array Value)} [GK k] {w : World} (hk : ConOk k w) (args : Array Value) (ha : All2 (cV A (kPhi k)) vs args.toList) :
    Calls P f args w (fun e w' => e = .returned (.bool true) ∧ Below w.heap.size w w') := by
  cases hrun : runFn F n f vs h0 with
  | none => rw [hrun] at hr; cases hr
  | some p =>
    obtain ⟨v, h'⟩ := p
    rw [hrun] at hr
    match v, hrun, hr with
    | .s (.bool b), hrun, hr =>
      have hb : b = true := hr
      subst hb
      refine Calls.mono (run_calls env hrun hk args ha) ?_
      rintro e w' ⟨rv, φ, rfl, hbl, hcv⟩
      have : rv = .bool true := hcv
      exact ⟨by rw [this], hbl⟩
end
end Go.Proofs.YtmaaalpegnhjcaaDoor.Ev
