/- Runs of the interpreter about open terms: what must hold for a run to end well, as an equation for each form of code. No program in sight. -/
import Derived.Test.YtmaaalpegnhjcaaDoorRl
import Derived.Test.YtmaaalpegnhjcaaDoorIso
namespace Go.Proofs.YtmaaalpegnhjcaaDoor.Ev
open Go Go.RowKit
set_option linter.unusedVariables false
set_option linter.unusedSimpArgs false
/-! ### what a run ends in, whatever the fuel -/
def W (F : Fns) (c : IC) (s : St) (Q : Ex → St → Prop) : Prop := ∃ n e s', run F n c s = some (e, s') ∧ Q e s'
def WO (F : Fns) (l : List IOper) (st fr : List AV) (h : Hp) (Q : Ex → St → Prop) : Prop := ∃ n s', iops (runCl F (run F n)) l st fr h = some s' ∧ Q .normal s'
def WD (F : Fns) (l : List (IOper × Option (List Nat))) (st : List AV) (es : List Ent) (fr : List AV) (h : Hp) (Q : Ex → St → Prop) : Prop := ∃ n s', dops (runCl F (run F n)) l st es fr h = some s' ∧ Q .normal s'
def WC (F : Fns) (f : FuncId) (vs : List AV) (h : Hp) (Q : AV → Hp → Prop) : Prop := ∃ n v h', runFn F n f vs h = some (v, h') ∧ Q v h'
def thenQ (F : Fns) (b : IC) (Q : Ex → St → Prop) (e : Ex) (s : St) : Prop := Ex.casesOn (motive := fun _ => Prop) e (W F b s Q) (fun k => Q (.exit k) s) (Q .ret s)
def blkQ (id : Nat) (Q : Ex → St → Prop) (e : Ex) (s : St) : Prop := Ex.casesOn (motive := fun _ => Prop) e (Q .normal s) (fun k => if k = id then Q .normal s else Q (.exit k) s) (Q .ret s)
def loopQ (F : Fns) (b : IC) (Q : Ex → St → Prop) (e : Ex) (s : St) : Prop := Ex.casesOn (motive := fun _ => Prop) e (W F (.loop b) s Q) (fun k => Q (.exit k) s) (Q .ret s)
def obP {α : Type} (x : Option α) (f : α → Prop) : Prop := ∃ a, x = some a ∧ f a
def cndP (v : Option AV) (X Y : Prop) : Prop := ∃ b, v = some (.s (.bool b)) ∧ (if b = true then X else Y)
section
variable {F : Fns} {s : St} {st fr : List AV} {h : Hp} {Q : Ex → St → Prop} {α : Type}
theorem thenQ_normal {b : IC} : thenQ F b Q .normal s = W F b s Q := rfl
theorem thenQ_exit {b : IC} {k : Nat} : thenQ F b Q (.exit k) s = Q (.exit k) s := rfl
theorem thenQ_ret {b : IC} : thenQ F b Q .ret s = Q .ret s := rfl
theorem blkQ_normal {id : Nat} : blkQ id Q .normal s = Q .normal s := rfl
theorem blkQ_exit {id k : Nat} : blkQ id Q (.exit k) s = if k = id then Q .normal s else Q (.exit k) s := rfl
theorem blkQ_ret {id : Nat} : blkQ id Q .ret s = Q .ret s := rfl
theorem loopQ_normal {b : IC} : loopQ F b Q .normal s = W F (.loop b) s Q := rfl
theorem loopQ_exit {b : IC} {k : Nat} : loopQ F b Q (.exit k) s = Q (.exit k) s := rfl
theorem loopQ_ret {b : IC} : loopQ F b Q .ret s = Q .ret s := rfl
theorem obP_some {a : α} {f : α → Prop} : obP (some a) f = f a := propext ⟨fun ⟨b, e, h⟩ => by cases e; exact h, fun h => ⟨a, rfl, h⟩⟩
theorem obP_none {f : α → Prop} : obP none f = False := propext ⟨fun ⟨b, e, h⟩ => (by cases e), fun h => h.elim⟩
theorem cndP_some {b : Bool} {X Y : Prop} : cndP (some (.s (.bool b))) X Y = if b = true then X else Y := propext ⟨fun ⟨c, e, h⟩ => by cases e; exact h, fun h => ⟨b, rfl, h⟩⟩
theorem W_mono {c : IC} {n m : Nat} {e : Ex} {s' : St} (hn : n ≤ m) (h : run F n c s = some (e, s')) : run F m c s = some (e, s') := run_mono F hn _ _ _ h
theorem W.imp {c : IC} {Q' : Ex → St → Prop} (h : W F c s Q) (hq : ∀ e s, Q e s → Q' e s) : W F c s Q' := let ⟨n, e, s', h1, h2⟩ := h; ⟨n, e, s', h1, hq _ _ h2⟩
theorem WC.imp {f : FuncId} {vs : List AV} {Q Q' : AV → Hp → Prop} (k : WC F f vs h Q) (hq : ∀ v h, Q v h → Q' v h) : WC F f vs h Q' := let ⟨n, e, s', h1, h2⟩ := k; ⟨n, e, s', h1, hq _ _ h2⟩
theorem W_skip : W F .skip s Q = Q .normal s := propext ⟨fun ⟨n, e, s', h1, h2⟩ => by cases n with
  | zero => cases h1
  | succ n => cases h1; exact h2, fun h => ⟨1, _, _, rfl, h⟩⟩
theorem W_ret : W F .ret s Q = Q .ret s := propext ⟨fun ⟨n, e, s', h1, h2⟩ => by cases n with
  | zero => cases h1
  | succ n => cases h1; exact h2, fun h => ⟨1, _, _, rfl, h⟩⟩
theorem W_exit {id : Nat} : W F (.exit id) s Q = Q (.exit id) s := propext ⟨fun ⟨n, e, s', h1, h2⟩ => by cases n with
  | zero => cases h1
  | succ n => cases h1; exact h2, fun h => ⟨1, _, _, rfl, h⟩⟩
theorem W_seq {a b : IC} : W F (.seq a b) s Q = W F a s (thenQ F b Q) := by
  refine propext ⟨fun ⟨n, e, s', h1, h2⟩ => ?_, fun ⟨n, e, s', h1, h2⟩ => ?_⟩
  · cases n with
    | zero => cases h1
    | succ n =>
      obtain ⟨p, h3, h4⟩ := ob_some.1 (show ob (run F n a s) (fun p => Ex.casesOn (motive := fun _ => Option (Ex × St)) p.1 (run F n b p.2) (fun _ => some p) (some p)) = some (e, s') from h1)
      obtain ⟨e1, s1⟩ := p
      refine ⟨n, e1, s1, h3, ?_⟩
      cases e1 with
      | normal => exact ⟨n, e, s', h4, h2⟩
      | exit k => cases h4; exact h2
      | ret => cases h4; exact h2
  · cases e with
    | normal =>
      obtain ⟨m, e2, s2, h3, h4⟩ := h2
      exact ⟨max n m + 1, e2, s2, ob_some.2 ⟨_, W_mono (Nat.le_max_left n m) h1, W_mono (Nat.le_max_right n m) h3⟩, h4⟩
    | exit k => exact ⟨n + 1, _, _, ob_some.2 ⟨_, h1, rfl⟩, h2⟩
    | ret => exact ⟨n + 1, _, _, ob_some.2 ⟨_, h1, rfl⟩, h2⟩
theorem W_loop {b : IC} : W F (.loop b) s Q = W F b s (loopQ F b Q) := by
  refine propext ⟨fun ⟨n, e, s', h1, h2⟩ => ?_, fun ⟨n, e, s', h1, h2⟩ => ?_⟩
  · cases n with
    | zero => cases h1
    | succ n =>
      obtain ⟨p, h3, h4⟩ := ob_some.1 (show ob (run F n b s) (fun p => Ex.casesOn (motive := fun _ => Option (Ex × St)) p.1 (run F n (.loop b) p.2) (fun _ => some p) (some p)) = some (e, s') from h1)
      obtain ⟨e1, s1⟩ := p
      refine ⟨n, e1, s1, h3, ?_⟩
      cases e1 with
      | normal => exact ⟨n, e, s', h4, h2⟩
      | exit k => cases h4; exact h2
      | ret => cases h4; exact h2
  · cases e with
    | normal =>
      obtain ⟨m, e2, s2, h3, h4⟩ := h2
      exact ⟨max n m + 1, e2, s2, ob_some.2 ⟨_, W_mono (Nat.le_max_left n m) h1, W_mono (Nat.le_max_right n m) h3⟩, h4⟩
    | exit k => exact ⟨n + 1, _, _, ob_some.2 ⟨_, h1, rfl⟩, h2⟩
    | ret => exact ⟨n + 1, _, _, ob_some.2 ⟨_, h1, rfl⟩, h2⟩
theorem W_block {id : Nat} {b : IC} : W F (.block id b) s Q = W F b s (blkQ id Q) := by
  have key : ∀ k (s1 : St), oif (Nat.beq k id) (some (Ex.normal, s1)) (some (.exit k, s1)) = if k = id then some (.normal, s1) else some (.exit k, s1) := fun k s1 => by
    rw [oif_if]; congr 1; exact nbeq k id
  refine propext ⟨fun ⟨n, e, s', h1, h2⟩ => ?_, fun ⟨n, e, s', h1, h2⟩ => ?_⟩
  · cases n with
    | zero => cases h1
    | succ n =>
      obtain ⟨p, h3, h4⟩ := ob_some.1 (show ob (run F n b s) (fun p => Ex.casesOn (motive := fun _ => Option (Ex × St)) p.1 (some p) (fun k => oif (Nat.beq k id) (some (.normal, p.2)) (some p)) (some p)) = some (e, s') from h1)
      obtain ⟨e1, s1⟩ := p
      refine ⟨n, e1, s1, h3, ?_⟩
      cases e1 with
      | normal => cases h4; exact h2
      | exit k =>
        have h5 : oif (Nat.beq k id) (some (Ex.normal, s1)) (some (.exit k, s1)) = some (e, s') := h4
        rw [key] at h5
        show if k = id then Q .normal s1 else Q (.exit k) s1
        split
        · rename_i hk; rw [if_pos hk] at h5; cases h5; exact h2
        · rename_i hk; rw [if_neg hk] at h5; cases h5; exact h2
      | ret => cases h4; exact h2
  · cases e with
    | normal => exact ⟨n + 1, _, _, ob_some.2 ⟨_, h1, rfl⟩, h2⟩
    | exit k =>
      have h3 : if k = id then Q .normal s' else Q (.exit k) s' := h2
      split at h3
      · rename_i hk
        exact ⟨n + 1, _, _, ob_some.2 ⟨_, h1, (key k s').trans (if_pos hk)⟩, h3⟩
      · rename_i hk
        exact ⟨n + 1, _, _, ob_some.2 ⟨_, h1, (key k s').trans (if_neg hk)⟩, h3⟩
    | ret => exact ⟨n + 1, _, _, ob_some.2 ⟨_, h1, rfl⟩, h2⟩
theorem W_cond {c : Od} {x y : IC} : W F (.cond c x y) (.mk fr h) Q = cndP (ev [] fr c) (W F x (.mk fr h) Q) (W F y (.mk fr h) Q) := by
  refine propext ⟨fun ⟨n, e, s', h1, h2⟩ => ?_, fun ⟨b, hb, h2⟩ => ?_⟩
  · cases n with
    | zero => cases h1
    | succ n =>
      obtain ⟨v, h3, h4⟩ := ob_some.1 (show ob (ev [] fr c) (fun v => sBool v (fun t => run F n (oif t x y) (.mk fr h))) = some (e, s') from h1)
      obtain ⟨t, rfl, h5⟩ := sBool_some h4
      refine ⟨t, h3, ?_⟩
      cases t with
      | true => exact ⟨n, e, s', h5, h2⟩
      | false => exact ⟨n, e, s', h5, h2⟩
  · cases b with
    | true =>
      obtain ⟨n, e, s', h3, h4⟩ := (show W F x (.mk fr h) Q from h2)
      exact ⟨n + 1, e, s', ob_some.2 ⟨_, hb, h3⟩, h4⟩
    | false =>
      obtain ⟨n, e, s', h3, h4⟩ := (show W F y (.mk fr h) Q from h2)
      exact ⟨n + 1, e, s', ob_some.2 ⟨_, hb, h3⟩, h4⟩
theorem W_region {ops : List IOper} : W F (.region ops) (.mk fr h) Q = WO F ops [] fr h Q := by
  refine propext ⟨fun ⟨n, e, s', h1, h2⟩ => ?_, fun ⟨n, s', h1, h2⟩ => ⟨n + 1, .normal, s', ob_some.2 ⟨_, h1, rfl⟩, h2⟩⟩
  cases n with
  | zero => cases h1
  | succ n =>
    obtain ⟨s1, h3, h4⟩ := ob_some.1 (show ob (iops (runCl F (run F n)) ops [] fr h) (fun s => some (Ex.normal, s)) = some (e, s') from h1)
    cases h4
    exact ⟨n, _, h3, h2⟩
theorem W_draw {ops : List (IOper × Option (List Nat))} : W F (.draw ops) (.mk fr h) Q = WD F ops [] [] fr h Q := by
  refine propext ⟨fun ⟨n, e, s', h1, h2⟩ => ?_, fun ⟨n, s', h1, h2⟩ => ⟨n + 1, .normal, s', ob_some.2 ⟨_, h1, rfl⟩, h2⟩⟩
  cases n with
  | zero => cases h1
  | succ n =>
    obtain ⟨s1, h3, h4⟩ := ob_some.1 (show ob (dops (runCl F (run F n)) ops [] [] fr h) (fun s => some (Ex.normal, s)) = some (e, s') from h1)
    cases h4
    exact ⟨n, _, h3, h2⟩
theorem WO_nil : WO F [] st fr h Q = Q .normal (.mk fr h) := propext ⟨fun ⟨n, s', h1, h2⟩ => by cases h1; exact h2, fun h => ⟨0, _, rfl, h⟩⟩
theorem WO_cons {dst : Option Nat} {op : IOp} {g : Option (Nat × Bool)} {l : List IOper} : WO F (.mk dst op g :: l) st fr h Q = ∃ n v h', opDo (runCl F (run F n)) st fr h op g = some (v, h') ∧ WO F l (v :: st) (putD fr dst v) h' Q := by
  refine propext ⟨fun ⟨n, s', h1, h2⟩ => ?_, fun ⟨n, v, h', h1, m, s', h2, h3⟩ => ?_⟩
  · obtain ⟨p, h3, h4⟩ := ob_some.1 (show ob (opDo (runCl F (run F n)) st fr h op g) (fun p => iops (runCl F (run F n)) l (p.1 :: st) (putD fr dst p.1) p.2) = some s' from h1)
    exact ⟨n, p.1, p.2, h3, n, s', h4, h2⟩
  · exact ⟨max n m, s', ob_some.2 ⟨(v, h'), opDo_mono (runCl_mono (run_mono F (Nat.le_max_left n m))) h1, iops_mono (runCl_mono (run_mono F (Nat.le_max_right n m))) h2⟩, h3⟩
/-- an operation that calls nothing -/
theorem WO_op {dst : Option Nat} {op : IOp} {l : List IOper} {x : R} (hx : ∀ cl, iop cl st fr h op = x) : WO F (.mk dst op none :: l) st fr h Q = obP x (fun p => WO F l (p.1 :: st) (putD fr dst p.1) p.2 Q) := by
  rw [WO_cons]
  refine propext ⟨fun ⟨n, v, h', h1, h2⟩ => ⟨(v, h'), ?_, h2⟩, fun ⟨p, h1, h2⟩ => ⟨0, p.1, p.2, ?_, h2⟩⟩
  · rw [← hx (runCl F (run F n))]; exact h1
  · rw [← hx (runCl F (run F 0))] at h1; exact h1
theorem WO_pure {dst : Option Nat} {o : PO} {l : List IOper} : WO F (.mk dst (.p o) none :: l) st fr h Q = obP (pop st fr o) (fun v => WO F l (v :: st) (putD fr dst v) h Q) := by
  rw [WO_op (x := ob (pop st fr o) (fun v => ok v h)) (fun _ => rfl)]
  refine propext ⟨fun ⟨p, h1, h2⟩ => ?_, fun ⟨v, h1, h2⟩ => ⟨(v, h), ob_some.2 ⟨v, h1, rfl⟩, h2⟩⟩
  obtain ⟨v, h3, h4⟩ := ob_some.1 h1
  cases h4
  exact ⟨v, h3, h2⟩
def AO.calls : AO → Bool
  | .call _ _ => true
  | .callv _ _ => true
  | _ => false
noncomputable def aop0 (st fr : List AV) (h : Hp) (o : AO) : R := aop (fun _ _ _ => none) st fr h o
theorem aop_any {cl : FuncId → List AV → Hp → R} {o : AO} (ho : o.calls = false) : aop cl st fr h o = aop0 st fr h o := by
  cases o <;> first | rfl | cases ho
theorem WO_mem {dst : Option Nat} {o : AO} {l : List IOper} (ho : o.calls = false) : WO F (.mk dst (.a o) none :: l) st fr h Q = obP (aop0 st fr h o) (fun p => WO F l (p.1 :: st) (putD fr dst p.1) p.2 Q) :=
  WO_op (fun _ => aop_any ho)
theorem WO_call {dst : Option Nat} {f : FuncId} {as : List Od} {l : List IOper} : WO F (.mk dst (.a (.call f as)) none :: l) st fr h Q = obP (evs st fr as) (fun vs => WC F f vs h (fun v h' => WO F l (v :: st) (putD fr dst v) h' Q)) := by
  rw [WO_cons]
  refine propext ⟨fun ⟨n, v, h', h1, h2⟩ => ?_, fun ⟨vs, h1, n, v, h', h2, h3⟩ => ⟨n, v, h', ob_some.2 ⟨true, rfl, ob_some.2 ⟨vs, h1, h2⟩⟩, h3⟩⟩
  have h1' : ob (evs st fr as) (fun vs => runCl F (run F n) f vs h) = some (v, h') := h1
  obtain ⟨vs, h4, h5⟩ := ob_some.1 h1'
  exact ⟨vs, h4, n, v, h', h5, h2⟩
/-- a call of a function value -/
theorem WO_callv {dst : Option Nat} {x : Od} {as : List Od} {l : List IOper} : WO F (.mk dst (.a (.callv x as)) none :: l) st fr h Q = ∃ f caps, ev st fr x = some (.s (.func f caps)) ∧ obP (evs st fr as) (fun vs => WC F f (vs ++ capAVs caps) h (fun v h' => WO F l (v :: st) (putD fr dst v) h' Q)) := by
  rw [WO_cons]
  refine propext ⟨fun ⟨n, v, h', h1, h2⟩ => ?_, fun ⟨f, caps, hx, vs, h1, n, v, h', h2, h3⟩ => ⟨n, v, h', ob_some.2 ⟨true, rfl, ob_some.2 ⟨_, hx, ?_⟩⟩, h3⟩⟩
  · have h1' : ob (ev st fr x) (fun v => sFunc v (fun f caps => ob (evs st fr as) (fun vs => runCl F (run F n) f (lapp vs (capAVs caps)) h))) = some (v, h') := h1
    obtain ⟨w, hw, h4⟩ := ob_some.1 h1'
    obtain ⟨f, caps, rfl, h5⟩ := sFunc_some h4
    obtain ⟨vs, h6, h7⟩ := ob_some.1 h5
    rw [lapp_eq] at h7
    exact ⟨f, caps, hw, vs, h6, n, v, h', h7, h2⟩
  · show ob (evs st fr as) (fun vs => runCl F (run F n) f (lapp vs (capAVs caps)) h) = some (v, h')
    refine ob_some.2 ⟨vs, h1, ?_⟩
    rw [lapp_eq]
    exact h2
def gP (v : Option AV) (t : Bool) (X Y : Prop) : Prop := ∃ x, v = some x ∧ ((∃ b, x = .s (.bool b) ∧ if b = t then X else Y) ∨ (x = .undef ∧ Y))
theorem gP_bool {b t : Bool} {X Y : Prop} : gP (some (.s (.bool b))) t X Y = if b = t then X else Y := propext ⟨fun ⟨x, e, h⟩ => by
  cases e
  rcases h with ⟨c, e, h⟩ | ⟨h, _⟩
  · cases e; exact h
  · exact (by cases h), fun h => ⟨_, rfl, .inl ⟨b, rfl, h⟩⟩⟩
theorem gP_undef {t : Bool} {X Y : Prop} : gP (some .undef) t X Y = Y := propext ⟨fun ⟨x, e, h⟩ => by
  cases e
  rcases h with ⟨c, e, h⟩ | ⟨_, h⟩
  · cases e
  · exact h, fun h => ⟨_, rfl, .inr ⟨rfl, h⟩⟩⟩
theorem goes_some {i : Nat} {t b : Bool} : goes st (some (i, t)) = some b ↔ ∃ x, lget st i = some x ∧ ((∃ c, x = .s (.bool c) ∧ b = decide (c = t)) ∨ (x = .undef ∧ b = false)) := by
  have e : goes st (some (i, t)) = ob (lget st i) (fun v => svc (some false) v (fun s => vBool s (fun b => some (oif t b (bnot b))))) := rfl
  rw [e]
  constructor
  · intro h1
    obtain ⟨x, hx, h2⟩ := ob_some.1 h1
    refine ⟨x, hx, ?_⟩
    cases x with
    | s x =>
      cases x with
      | bool c => left; exact ⟨c, rfl, by cases c <;> cases t <;> exact (Option.some.inj h2).symm⟩
      | _ => cases h2
    | undef => right; exact ⟨rfl, (Option.some.inj h2).symm⟩
    | _ => cases h2
  · rintro ⟨x, hx, h1⟩
    refine ob_some.2 ⟨x, hx, ?_⟩
    rcases h1 with ⟨c, rfl, rfl⟩ | ⟨rfl, rfl⟩
    · cases c <;> cases t <;> rfl
    · rfl
theorem WO_guard {dst : Option Nat} {op : IOp} {i : Nat} {t : Bool} {l : List IOper} : WO F (.mk dst op (some (i, t)) :: l) st fr h Q = gP (lget st i) t (WO F (.mk dst op none :: l) st fr h Q) (WO F l (.undef :: st) (putD fr dst .undef) h Q) := by
  rw [WO_cons, WO_cons]
  refine propext ⟨fun ⟨n, v, h', h1, h2⟩ => ?_, fun ⟨x, hx, h1⟩ => ?_⟩
  · obtain ⟨b, hb, h3⟩ := ob_some.1 (show ob (goes st (some (i, t))) (fun b => Bool.rec (motive := fun _ => R) (ok .undef h) (iop (runCl F (run F n)) st fr h op) b) = some (v, h') from h1)
    obtain ⟨x, hx, h4⟩ := goes_some.1 hb
    refine ⟨x, hx, ?_⟩
    rcases h4 with ⟨c, rfl, rfl⟩ | ⟨h4, rfl⟩
    · left
      refine ⟨c, rfl, ?_⟩
      split
      · rename_i hc; rw [hc, decide_eq_true rfl] at h3; exact ⟨n, v, h', ob_some.2 ⟨true, rfl, h3⟩, h2⟩
      · rename_i hc; rw [decide_eq_false hc] at h3; cases h3; exact h2
    · right; cases h3; exact ⟨h4, h2⟩
  · rcases h1 with ⟨c, rfl, h1⟩ | ⟨h1, h2⟩
    · split at h1
      · rename_i hc
        obtain ⟨n, v, h', h3, h4⟩ := h1
        refine ⟨n, v, h', ob_some.2 ⟨true, goes_some.2 ⟨_, hx, .inl ⟨c, rfl, (decide_eq_true hc).symm⟩⟩, ?_⟩, h4⟩
        obtain ⟨b, hb, h5⟩ := ob_some.1 h3
        cases hb
        exact h5
      · rename_i hc
        exact ⟨0, .undef, h, ob_some.2 ⟨false, goes_some.2 ⟨_, hx, .inl ⟨c, rfl, (decide_eq_false hc).symm⟩⟩, rfl⟩, h1⟩
    · exact ⟨0, .undef, h, ob_some.2 ⟨false, goes_some.2 ⟨_, hx, .inr ⟨h1, rfl⟩⟩, rfl⟩, h2⟩
/-! ### regions that draw -/
theorem WD_nil {es : List Ent} : WD F [] st es fr h Q = Q .normal (.mk fr h) := propext ⟨fun ⟨n, s', h1, h2⟩ => by cases h1; exact h2, fun h => ⟨0, _, rfl, h⟩⟩
theorem WD_cons {es : List Ent} {dst : Option Nat} {op : IOp} {g : Option (Nat × Bool)} {m : Option (List Nat)} {l : List (IOper × Option (List Nat))} : WD F ((.mk dst op g, m) :: l) st es fr h Q = ∃ n v h' e, drDo (runCl F (run F n)) st fr es h op g m = some (.mk v h' e) ∧ WD F l (v :: st) (e :: es) (putD fr dst v) h' Q := by
  refine propext ⟨fun ⟨n, s', h1, h2⟩ => ?_, fun ⟨n, v, h', e, h1, k, s', h2, h3⟩ => ?_⟩
  · obtain ⟨p, h3, h4⟩ := ob_some.1 (show ob (drDo (runCl F (run F n)) st fr es h op g m) (fun p => DR.casesOn (motive := fun _ => Option St) p (fun v h' e => dops (runCl F (run F n)) l (v :: st) (e :: es) (putD fr dst v) h')) = some s' from h1)
    obtain ⟨v, h', e⟩ := p
    exact ⟨n, v, h', e, h3, n, s', h4, h2⟩
  · exact ⟨max n k, s', ob_some.2 ⟨.mk v h' e, drDo_mono (runCl_mono (run_mono F (Nat.le_max_left n k))) h1, dops_mono (runCl_mono (run_mono F (Nat.le_max_right n k))) h2⟩, h3⟩
theorem WD_op {es : List Ent} {dst : Option Nat} {op : IOp} {m : Option (List Nat)} {l : List (IOper × Option (List Nat))} {x : Option DR} (hx : ∀ cl, drDo cl st fr es h op none m = x) : WD F ((.mk dst op none, m) :: l) st es fr h Q = obP x (fun p => DR.casesOn (motive := fun _ => Prop) p (fun v h' e => WD F l (v :: st) (e :: es) (putD fr dst v) h' Q)) := by
  rw [WD_cons]
  refine propext ⟨fun ⟨n, v, h', e, h1, h2⟩ => ⟨.mk v h' e, ?_, h2⟩, fun ⟨p, h1, h2⟩ => ?_⟩
  · rw [← hx (runCl F (run F n))]; exact h1
  · obtain ⟨v, h', e⟩ := p
    exact ⟨0, v, h', e, by rw [hx]; exact h1, h2⟩
/-- in the order of the text -/
theorem WD_pure {es : List Ent} {dst : Option Nat} {o : PO} {l : List (IOper × Option (List Nat))} : WD F ((.mk dst (.p o) none, none) :: l) st es fr h Q = obP (pop st fr o) (fun v => WD F l (v :: st) (.mk [] (some []) :: es) (putD fr dst v) h Q) := by
  rw [WD_op (x := ob (pop st fr o) (fun v => some (DR.mk v h (.mk [] (some []))))) (fun cl => ?_)]
  · refine propext ⟨fun ⟨p, h1, h2⟩ => ?_, fun ⟨v, h1, h2⟩ => ⟨.mk v h (.mk [] (some [])), ob_some.2 ⟨v, h1, rfl⟩, h2⟩⟩
    obtain ⟨v, h3, h4⟩ := ob_some.1 h1
    cases h4
    exact ⟨v, h3, h2⟩
  · show ob (ob (pop st fr o) (fun v => ok v h)) (fun p => some (DR.mk p.1 p.2 (.mk [] (some [])))) = _
    cases pop st fr o <;> rfl
theorem WD_mem {es : List Ent} {dst : Option Nat} {o : AO} {l : List (IOper × Option (List Nat))} (ho : o.calls = false) : WD F ((.mk dst (.a o) none, none) :: l) st es fr h Q = obP (aop0 st fr h o) (fun p => WD F l (p.1 :: st) (.mk [] (some []) :: es) (putD fr dst p.1) p.2 Q) := by
  rw [WD_op (x := ob (aop0 st fr h o) (fun p => some (DR.mk p.1 p.2 (.mk [] (some []))))) (fun cl => ?_)]
  · refine propext ⟨fun ⟨p, h1, h2⟩ => ?_, fun ⟨p, h1, h2⟩ => ⟨.mk p.1 p.2 (.mk [] (some [])), ob_some.2 ⟨p, h1, rfl⟩, h2⟩⟩
    obtain ⟨q, h3, h4⟩ := ob_some.1 h1
    cases h4
    exact ⟨q, h3, h2⟩
  · show ob (aop cl st fr h o) (fun p => some (DR.mk p.1 p.2 (.mk [] (some [])))) = _
    rw [aop_any ho]
theorem WD_call {es : List Ent} {dst : Option Nat} {f : FuncId} {as : List Od} {l : List (IOper × Option (List Nat))} : WD F ((.mk dst (.a (.call f as)) none, none) :: l) st es fr h Q = obP (evs st fr as) (fun vs => WC F f vs h (fun v h' => WD F l (v :: st) (.mk [] (some []) :: es) (putD fr dst v) h' Q)) := by
  rw [WD_cons]
  refine propext ⟨fun ⟨n, v, h', e, h1, h2⟩ => ?_, fun ⟨vs, h1, n, v, h', h2, h3⟩ => ⟨n, v, h', .mk [] (some []), ob_some.2 ⟨true, rfl, ob_some.2 ⟨(v, h'), ob_some.2 ⟨vs, h1, h2⟩, rfl⟩⟩, h3⟩⟩
  have h1' : ob (ob (evs st fr as) (fun vs => runCl F (run F n) f vs h)) (fun p => some (DR.mk p.1 p.2 (.mk [] (some [])))) = some (.mk v h' e) := h1
  obtain ⟨p, h4, h5⟩ := ob_some.1 h1'
  obtain ⟨vs, h6, h7⟩ := ob_some.1 h4
  cases h5
  exact ⟨vs, h6, n, p.1, p.2, h7, h2⟩
/-- apart from others: what touches no memory that there is -/
theorem WD_head_pure {es : List Ent} {dst : Option Nat} {o : PO} {js : List Nat} {l : List (IOper × Option (List Nat))} : WD F ((.mk dst (.p o) none, some js) :: l) st es fr h Q = obP (sel es js h.hid) (fun _ => obP (pop st fr o) (fun v => WD F l (v :: st) (.mk [(h.next, h.next)] (some []) :: es) (putD fr dst v) h Q)) := by
  cases h with
  | mk n t lo hid =>
  rw [WD_op (x := ob (sel es js hid) (fun hid' => ob (pop st fr o) (fun v => some (DR.mk v (.mk n t lo hid) (.mk [(n, n)] (some [])))))) (fun cl => ?_)]
  · refine propext ⟨fun ⟨p, h1, h2⟩ => ?_, fun ⟨hid', h0, v, h1, h2⟩ => ⟨.mk v (.mk n t lo hid) (.mk [(n, n)] (some [])), ob_some.2 ⟨hid', h0, ob_some.2 ⟨v, h1, rfl⟩⟩, h2⟩⟩
    obtain ⟨hid', h3, h4⟩ := ob_some.1 h1
    obtain ⟨v, h5, h6⟩ := ob_some.1 h4
    cases h6
    exact ⟨hid', h3, v, h5, h2⟩
  · show ob (sel es js hid) (fun hid' => ob (ob (pop st fr o) (fun v => ok v (.mk n t n hid'))) (fun p => Hp.casesOn (motive := fun _ => Option DR) p.2 (fun n' t' _ _ => some (.mk p.1 (.mk n' t' lo hid) (.mk [(n, n')] (some [])))))) = _
    congr 1
    funext hid'
    cases pop st fr o <;> rfl
theorem WD_guard {es : List Ent} {dst : Option Nat} {op : IOp} {i : Nat} {t : Bool} {m : Option (List Nat)} {l : List (IOper × Option (List Nat))} : WD F ((.mk dst op (some (i, t)), m) :: l) st es fr h Q = gP (lget st i) t (WD F ((.mk dst op none, m) :: l) st es fr h Q) (WD F l (.undef :: st) (.mk [] (some []) :: es) (putD fr dst .undef) h Q) := by
  rw [WD_cons, WD_cons]
  have go : ∀ n g v h' e, drDo (runCl F (run F n)) st fr es h op g m = some (.mk v h' e) ↔ ∃ b, goes st g = some b ∧ ((b = false ∧ v = .undef ∧ h' = h ∧ e = .mk [] (some [])) ∨ (b = true ∧ drDo (runCl F (run F n)) st fr es h op none m = some (.mk v h' e))) := fun n g v h' e => by
    constructor
    · intro h1
      obtain ⟨b, hb, h3⟩ := ob_some.1 h1
      refine ⟨b, hb, ?_⟩
      cases b with
      | false => cases h3; exact .inl ⟨rfl, rfl, rfl, rfl⟩
      | true => exact .inr ⟨rfl, ob_some.2 ⟨true, rfl, h3⟩⟩
    · rintro ⟨b, hb, ⟨rfl, rfl, rfl, rfl⟩ | ⟨rfl, h1⟩⟩
      · exact ob_some.2 ⟨false, hb, rfl⟩
      · obtain ⟨c, hc, h2⟩ := ob_some.1 h1
        cases hc
        exact ob_some.2 ⟨true, hb, h2⟩
  refine propext ⟨fun ⟨n, v, h', e, h1, h2⟩ => ?_, fun ⟨x, hx, h1⟩ => ?_⟩
  · obtain ⟨b, hb, h3⟩ := (go n _ v h' e).1 h1
    obtain ⟨x, hx, h4⟩ := goes_some.1 hb
    refine ⟨x, hx, ?_⟩
    rcases h4 with ⟨c, rfl, rfl⟩ | ⟨h4, rfl⟩
    · left
      refine ⟨c, rfl, ?_⟩
      split
      · rename_i hc
        rcases h3 with ⟨h3, _⟩ | ⟨_, h3⟩
        · rw [decide_eq_true hc] at h3; cases h3
        · exact ⟨n, v, h', e, h3, h2⟩
      · rename_i hc
        rcases h3 with ⟨_, rfl, rfl, rfl⟩ | ⟨h3, _⟩
        · exact h2
        · rw [decide_eq_false hc] at h3; cases h3
    · right
      rcases h3 with ⟨_, rfl, rfl, rfl⟩ | ⟨h3, _⟩
      · exact ⟨h4, h2⟩
      · cases h3
  · rcases h1 with ⟨c, rfl, h1⟩ | ⟨h1, h2⟩
    · split at h1
      · rename_i hc
        obtain ⟨n, v, h', e, h3, h4⟩ := h1
        exact ⟨n, v, h', e, (go n _ v h' e).2 ⟨true, goes_some.2 ⟨_, hx, .inl ⟨c, rfl, (decide_eq_true hc).symm⟩⟩, .inr ⟨rfl, h3⟩⟩, h4⟩
      · rename_i hc
        exact ⟨0, .undef, h, _, (go 0 _ _ _ _).2 ⟨false, goes_some.2 ⟨_, hx, .inl ⟨c, rfl, (decide_eq_false hc).symm⟩⟩, .inl ⟨rfl, rfl, rfl, rfl⟩⟩, h1⟩
    · exact ⟨0, .undef, h, _, (go 0 _ _ _ _).2 ⟨false, goes_some.2 ⟨_, hx, .inr ⟨h1, rfl⟩⟩, .inl ⟨rfl, rfl, rfl, rfl⟩⟩, h2⟩
end
/-! ### functions -/
def retQ (res : List IR) (Q : AV → Hp → Prop) (e : Ex) (s : St) : Prop := Ex.casesOn (motive := fun _ => Prop) e (obP (result s res) (fun p => Q p.1 p.2)) (fun _ => False) (obP (result s res) (fun p => Q p.1 p.2))
section
variable {F : Fns} {h : Hp} {vs : List AV} {f : FuncId} {Q : AV → Hp → Prop}
theorem retQ_normal {s : St} {res : List IR} : retQ res Q .normal s = obP (result s res) (fun p => Q p.1 p.2) := rfl
theorem retQ_ret {s : St} {res : List IR} : retQ res Q .ret s = obP (result s res) (fun p => Q p.1 p.2) := rfl
theorem WC_run {body : IC} {nargs nslots : Nat} {res : List IR} (hx : fnsX F f vs h = none) (hT : fnsT F f = some (.mk body nargs nslots res)) (hl : vs.length = nargs)
    (h1 : W F body (.mk (vs ++ undefs nslots) h) (retQ res Q)) : WC F f vs h Q := by
  obtain ⟨n, e, s', h2, h3⟩ := h1
  cases F with
  | mk T X =>
  have hx' : X f vs h = none := hx
  rw [← lapp_eq] at h2
  cases e with
  | normal =>
    obtain ⟨p, h4, h5⟩ := (show obP (result s' res) (fun p => Q p.1 p.2) from h3)
    obtain ⟨m, hm⟩ := fnR_of (v := p.1) (h' := p.2) hx' hT (by rw [llen_eq]; exact hl) ⟨n, h2⟩ (.inl rfl) h4
    exact ⟨m, p.1, p.2, hm, h5⟩
  | exit k => exact h3.elim
  | ret =>
    obtain ⟨p, h4, h5⟩ := (show obP (result s' res) (fun p => Q p.1 p.2) from h3)
    obtain ⟨m, hm⟩ := fnR_of (v := p.1) (h' := p.2) hx' hT (by rw [llen_eq]; exact hl) ⟨n, h2⟩ (.inr rfl) h4
    exact ⟨m, p.1, p.2, hm, h5⟩
theorem WC_ans {u : AV} {h' : Hp} (hx : fnsX F f vs h = some (u, h')) (hq : Q u h') : WC F f vs h Q := by
  cases F with
  | mk T X =>
  have hx' : X f vs h = some (u, h') := hx
  refine ⟨0, u, h', ?_, hq⟩
  show Option.rec (motive := fun _ => R) _ (fun r => some r) (X f vs h) = _
  rw [hx']
end
/-! ### calls apart from the heap -/
theorem frzL_mono {f g : SV → Option SV} (hf : ∀ x y, f x = some y → g x = some y) : ∀ {l r : List SV}, frzL f l = some r → frzL g l = some r
  | [], r, h => h
  | a :: l, r, h => by
    obtain ⟨x, h1, h2⟩ := ob_some.1 (show ob (f a) (fun x => ob (frzL f l) (fun r => some (x :: r))) = some r from h)
    obtain ⟨r', h3, h4⟩ := ob_some.1 h2
    exact ob_some.2 ⟨x, hf _ _ h1, ob_some.2 ⟨r', frzL_mono hf h3, h4⟩⟩
theorem frzS_mono1 {k : Bool} {h : Hp} : ∀ (d : Nat) (x y : SV), frzS k h d x = some y → frzS k h (d + 1) x = some y
  | 0, x, y, hx => by cases hx
  | d + 1, x, y, hx => by
    cases x with
    | slice b off len mc ex sz =>
      cases len with
      | zero => exact hx
      | succ len =>
        obtain ⟨cs, h1, h2⟩ := ob_some.1 (show ob (rd h b off (Nat.mul (len + 1) sz)) (fun cs => ob (frzL (frzS k h d) cs) (fun cs => ob (rowsOf sz (len + 1) cs) (fun rows => some (.lst rows)))) = some y from hx)
        obtain ⟨cs', h3, h4⟩ := ob_some.1 h2
        exact ob_some.2 ⟨cs, h1, ob_some.2 ⟨cs', frzL_mono (frzS_mono1 d) h3, h4⟩⟩
    | _ => exact hx
theorem frzS_mono {k : Bool} {h : Hp} {d e : Nat} (hd : d ≤ e) {x y : SV} (hx : frzS k h d x = some y) : frzS k h e x = some y := by
  induction e with
  | zero => obtain rfl : d = 0 := by omega
            exact hx
  | succ e ih =>
    rcases Nat.lt_or_ge e d with h1 | h1
    · obtain rfl : d = e + 1 := by omega
      exact hx
    · exact frzS_mono1 e _ _ (ih h1)
theorem frzT_mono {f g : SV → Option SV} (hf : ∀ x y, f x = some y → g x = some y) : ∀ {l r : List (Bool × List SV)}, frzT f l = some r → frzT g l = some r
  | [], r, h => h
  | p :: l, r, h => by
    obtain ⟨x, h1, h2⟩ := ob_some.1 (show ob (frzL f p.2) (fun x => ob (frzT f l) (fun r => some ((p.1, x) :: r))) = some r from h)
    obtain ⟨r', h3, h4⟩ := ob_some.1 h2
    exact ob_some.2 ⟨x, frzL_mono hf h1, ob_some.2 ⟨r', frzT_mono hf h3, h4⟩⟩
theorem frzA_mono {k : Bool} {h : Hp} {d e : Nat} (hd : d ≤ e) {x y : AV} (hx : frzA k h d x = some y) : frzA k h e x = some y := by
  cases x with
  | s x =>
    obtain ⟨y', h1, h2⟩ := ob_some.1 (show ob (frzS k h d x) (fun y => some (AV.s y)) = some y from hx)
    exact ob_some.2 ⟨y', frzS_mono hd h1, h2⟩
  | agg l =>
    obtain ⟨y', h1, h2⟩ := ob_some.1 (show ob (frzL (frzS k h d) l) (fun y => some (AV.agg y)) = some y from hx)
    exact ob_some.2 ⟨y', frzL_mono (fun _ _ => frzS_mono hd) h1, h2⟩
  | tup l =>
    obtain ⟨y', h1, h2⟩ := ob_some.1 (show ob (frzT (frzS k h d) l) (fun y => some (AV.tup y)) = some y from hx)
    exact ob_some.2 ⟨y', frzT_mono (fun _ _ => frzS_mono hd) h1, h2⟩
  | _ => exact hx
theorem frzAs_mono {k : Bool} {h : Hp} {d e : Nat} (hd : d ≤ e) : ∀ {l r : List AV}, frzAs k h d l = some r → frzAs k h e l = some r
  | [], r, h => h
  | a :: l, r, hr => by
    obtain ⟨x, h1, h2⟩ := ob_some.1 (show ob (frzA k h d a) (fun x => ob (frzAs k h d l) (fun r => some (x :: r))) = some r from hr)
    obtain ⟨r', h3, h4⟩ := ob_some.1 h2
    exact ob_some.2 ⟨x, frzA_mono hd h1, ob_some.2 ⟨r', frzAs_mono hd h3, h4⟩⟩
/-- a call on an empty heap, and its answer as it stays; k: may it hold what came in? -/
def PureR (k : Bool) (F : Fns) (f : FuncId) (vs : List AV) (u : AV) : Prop := WC F f vs h0 (fun v hi => ∃ d, frzA k hi d v = some u)
theorem PureR.one {k : Bool} {F : Fns} {f : FuncId} {vs : List AV} {u u' : AV} (h : PureR k F f vs u) (h' : PureR k F f vs u') : u = u' := by
  obtain ⟨n, v, hi, h1, d, h2⟩ := h
  obtain ⟨m, v', hi', h3, d', h4⟩ := h'
  have e1 : runFn F (max n m) f vs h0 = some (v, hi) := runCl_mono (run_mono F (Nat.le_max_left n m)) _ _ _ _ h1
  have e2 : runFn F (max n m) f vs h0 = some (v', hi') := runCl_mono (run_mono F (Nat.le_max_right n m)) _ _ _ _ h3
  rw [e1] at e2
  cases e2
  have e3 := frzA_mono (Nat.le_max_left d d') h2
  have e4 := frzA_mono (Nat.le_max_right d d') h4
  rw [e3] at e4
  exact Option.some.inj e4
def Stay (F : Fns) (f : FuncId) (vs : List AV) (h : Hp) (u : AV) : Prop := ∃ us d, frzAs true h d vs = some us ∧ PureR false F f us u
theorem Stay.one {F : Fns} {f : FuncId} {vs : List AV} {h : Hp} {u u' : AV} (k : Stay F f vs h u) (k' : Stay F f vs h u') : u = u' := by
  obtain ⟨us, d, h1, h2⟩ := k
  obtain ⟨us', d', h3, h4⟩ := k'
  have e3 := frzAs_mono (Nat.le_max_left d d') h1
  have e4 := frzAs_mono (Nat.le_max_right d d') h3
  rw [e3] at e4
  cases e4
  exact h2.one h4
open Classical in
noncomputable def pxA (F : Fns) (f : FuncId) (vs : List AV) (h : Hp) : Option AV :=
  if h1 : grdAs vs = true ∧ ∃ u, PureR true F f vs u then some (Classical.choose h1.2)
  else if h2 : ∃ u, Stay F f vs h u then some (Classical.choose h2) else none
theorem pxA_pure {F : Fns} {f : FuncId} {vs : List AV} {h : Hp} {u : AV} (hg : grdAs vs = true) (k : PureR true F f vs u) : pxA F f vs h = some u := by
  unfold pxA
  rw [dif_pos ⟨hg, u, k⟩]
  exact congrArg some ((Classical.choose_spec (p := fun u => PureR true F f vs u) ⟨u, k⟩).one k)
theorem pxA_stay {F : Fns} {f : FuncId} {vs : List AV} {h : Hp} {u : AV} (hg : grdAs vs = false) (k : Stay F f vs h u) : pxA F f vs h = some u := by
  unfold pxA
  rw [dif_neg (fun e => by rw [hg] at e; cases e.1), dif_pos ⟨u, k⟩]
  exact congrArg some ((Classical.choose_spec (p := fun u => Stay F f vs h u) ⟨u, k⟩).one k)
theorem pxA_some {F : Fns} {f : FuncId} {vs : List AV} {h : Hp} {u : AV} (k : pxA F f vs h = some u) : (grdAs vs = true ∧ PureR true F f vs u) ∨ Stay F f vs h u := by
  unfold pxA at k
  split at k
  · rename_i h1
    cases k
    exact .inl ⟨h1.1, Classical.choose_spec h1.2⟩
  · split at k
    · rename_i h2
      cases k
      exact .inr (Classical.choose_spec h2)
    · cases k
/-- the functions, some of them answered apart from the heap by runs with the functions below -/
noncomputable def PX (S : FuncId → Bool) (F : Fns) : Fns := .mk (fnsT F) (fun f vs h => Bool.rec (motive := fun _ => R) (fnsX F f vs h) (ob (pxA F f vs h) (fun u => ok u h)) (S f))
theorem PX_T {S : FuncId → Bool} {F : Fns} : fnsT (PX S F) = fnsT F := rfl
theorem PX_pure {S : FuncId → Bool} {F : Fns} {f : FuncId} {vs : List AV} {h : Hp} {u : AV} (hS : S f = true) (hg : grdAs vs = true) (k : PureR true F f vs u) : fnsX (PX S F) f vs h = some (u, h) := by
  show Bool.rec (motive := fun _ => R) (fnsX F f vs h) (ob (pxA F f vs h) (fun u => ok u h)) (S f) = _
  rw [hS, pxA_pure hg k]; rfl
theorem PX_stay {S : FuncId → Bool} {F : Fns} {f : FuncId} {vs : List AV} {h : Hp} {u : AV} (hS : S f = true) (hg : grdAs vs = false) (k : Stay F f vs h u) : fnsX (PX S F) f vs h = some (u, h) := by
  show Bool.rec (motive := fun _ => R) (fnsX F f vs h) (ob (pxA F f vs h) (fun u => ok u h)) (S f) = _
  rw [hS, pxA_stay hg k]; rfl
theorem PX_low {S : FuncId → Bool} {F : Fns} {f : FuncId} {vs : List AV} {h : Hp} (hS : S f = false) : fnsX (PX S F) f vs h = fnsX F f vs h := by
  show Bool.rec (motive := fun _ => R) (fnsX F f vs h) (ob (pxA F f vs h) (fun u => ok u h)) (S f) = _
  rw [hS]
theorem PX_env {P : Program} {A : Nat → Int} {T : Tr TI} {S : FuncId → Bool} {F : Fns} (env : Env P A T F) : Env P A T (PX S F) where
  tys := env.tys
  mix := env.mix
  fn := env.fn
  ext := fun f vs h v h' hx => by
    cases hS : S f with
    | false => rw [PX_low hS] at hx; exact env.ext f vs h v h' hx
    | true =>
      have hx' : ob (pxA F f vs h) (fun u => ok u h) = some (v, h') := by
        have e : fnsX (PX S F) f vs h = Bool.rec (motive := fun _ => R) (fnsX F f vs h) (ob (pxA F f vs h) (fun u => ok u h)) (S f) := rfl
        rw [e, hS] at hx
        exact hx
      obtain ⟨u, hu, h1⟩ := ob_some.1 hx'
      cases h1
      rcases pxA_some hu with ⟨hg, n, v0, hi, h1, d, h2⟩ | ⟨us, d, h1, n, v0, hi, h2, d', h3⟩
      · exact ⟨(cl_of_sound env (sound_all env n).1 f vs h0 v0 hi h1).1, fun k => Abs.refl _ k, fun φ w args rel ha => iso_calls env h1 h2 hg rel args ha⟩
      · exact ⟨(cl_of_sound env (sound_all env n).1 f us h0 v0 hi h2).1, fun k => Abs.refl _ k, fun φ w args rel ha => stay_calls env h1 h2 h3 rel args ha⟩
/-- a run on an empty heap that answers true -/
theorem pure_true {P : Program} {A : Nat → Int} {T : Tr TI} {F : Fns} (env : Env P A T F) {f : FuncId} {vs : List AV} {d : Unit} (k : WC F f vs h0 (fun v _ => v = .s (.bool true))) {c : Nat → Option (Array Value)} [GK c] {w : World} (hk : ConOk c w) (args : Array Value) (ha : All2 (cV A (kPhi c)) vs args.toList) :
    Calls P f args w (fun e w' => e = .returned (.bool true) ∧ Below w.heap.size w w') := by
  obtain ⟨n, v, h', h1, rfl⟩ := k
  exact run_true env (n := n) (by rw [h1]; rfl) hk args ha
end Go.Proofs.YtmaaalpegnhjcaaDoor.Ev
