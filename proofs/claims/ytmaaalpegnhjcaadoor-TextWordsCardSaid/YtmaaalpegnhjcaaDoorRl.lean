/- Runs of the interpreter step by step: more fuel answers the same; rules for code, regions, calls. No program in sight. -/
import Derived.Test.YtmaaalpegnhjcaaDoorRun
namespace Go.Proofs.YtmaaalpegnhjcaaDoor.Ev
open Go
set_option linter.unusedVariables false
def ClLe (cl cl' : FuncId → List AV → Hp → R) : Prop := ∀ f vs h r, cl f vs h = some r → cl' f vs h = some r
def RcLe (ih ih' : RC) : Prop := ∀ c s r, ih c s = some r → ih' c s = some r
section
variable {cl cl' : FuncId → List AV → Hp → R} {st fr : List AV} {h : Hp} {F : Fns} {ih ih' : RC}
theorem iop_mono (hc : ClLe cl cl') {op : IOp} {r : AV × Hp} (hr : iop cl st fr h op = some r) : iop cl' st fr h op = some r := by
  cases op with
  | p o => exact hr
  | a o =>
    cases o with
    | call f as =>
      obtain ⟨vs, h1, h2⟩ := ob_some.1 (show ob (evs st fr as) (fun vs => cl f vs h) = some r from hr)
      exact ob_some.2 ⟨vs, h1, hc _ _ _ _ h2⟩
    | callv x as =>
      obtain ⟨v, h1, h2⟩ := ob_some.1 (show ob (ev st fr x) (fun v => sFunc v (fun f caps => ob (evs st fr as) (fun vs => cl f (lapp vs (capAVs caps)) h))) = some r from hr)
      obtain ⟨f, caps, rfl, h3⟩ := sFunc_some h2
      obtain ⟨vs, h4, h5⟩ := ob_some.1 h3
      exact ob_some.2 ⟨_, h1, ob_some.2 ⟨vs, h4, hc _ _ _ _ h5⟩⟩
    | _ => exact hr
theorem opDo_mono (hc : ClLe cl cl') {op : IOp} {g : Option (Nat × Bool)} {r : AV × Hp} (hr : opDo cl st fr h op g = some r) : opDo cl' st fr h op g = some r := by
  obtain ⟨b, h1, h2⟩ := ob_some.1 hr
  refine ob_some.2 ⟨b, h1, ?_⟩
  cases b with
  | false => exact h2
  | true => exact iop_mono hc h2
theorem iops_mono (hc : ClLe cl cl') : ∀ {l : List IOper} {st fr : List AV} {h : Hp} {s : St}, iops cl l st fr h = some s → iops cl' l st fr h = some s
  | [], st, fr, h, s, hr => hr
  | .mk dst op g :: l, st, fr, h, s, hr => by
    obtain ⟨p, h1, h2⟩ := ob_some.1 (show ob (opDo cl st fr h op g) (fun p => iops cl l (p.1 :: st) (putD fr dst p.1) p.2) = some s from hr)
    exact ob_some.2 ⟨p, opDo_mono hc h1, iops_mono hc h2⟩
theorem drIn_mono (hc : ClLe cl cl') {n : Nat} {t : Tr AB} {lo lo' : Nat} {hid hid' : List (Nat × Nat)} {op : IOp} {e : Nat → Ent} {d : DR} (hr : drIn cl st fr n t lo lo' hid hid' op e = some d) : drIn cl' st fr n t lo lo' hid hid' op e = some d := by
  obtain ⟨p, h1, h2⟩ := ob_some.1 hr
  exact ob_some.2 ⟨p, iop_mono hc h1, h2⟩
theorem drHead_mono (hc : ClLe cl cl') {es : List Ent} {op : IOp} {js : List Nat} {d : DR} (hr : drHead cl st fr es h op js = some d) : drHead cl' st fr es h op js = some d := by
  cases h with
  | mk n t lo hid =>
    obtain ⟨hid', h1, h2⟩ := ob_some.1 (show ob (sel es js hid) (fun hid' => Cls.casesOn (motive := fun _ => Option DR) (clsOf st fr op)
      (drIn cl st fr n t lo n hid hid' op (fun n' => .mk [(n, n')] (some [])))
      (fun x => drIn cl st fr n t lo n hid hid' op (fun _ => .mk [] (some [x])))
      (fun b => oif (unread es js b) (oif (Nat.ble lo b) (ob (Hp.get (.mk n t lo hid') b) (fun _ => drIn cl st fr n t lo lo hid hid' op (fun n' => .mk [(b, Nat.succ b), (n, n')] none))) none) none)
      (drIn cl st fr n t lo n hid hid' op (fun _ => .mk [] (some [])))
      (drIn cl st fr n t lo n hid hid' op (fun n' => .mk [(n, n')] none))) = some d from hr)
    refine ob_some.2 ⟨hid', h1, ?_⟩
    revert h2
    cases clsOf st fr op with
    | fresh => exact fun h => drIn_mono hc h
    | load x => exact fun h => drIn_mono hc h
    | quiet => exact fun h => drIn_mono hc h
    | other => exact fun h => drIn_mono hc h
    | app b =>
      intro h2
      obtain ⟨h3, h4⟩ := oif_some.1 h2
      obtain ⟨h5, h6⟩ := oif_some.1 h4
      obtain ⟨x, h7, h8⟩ := ob_some.1 h6
      exact oif_some.2 ⟨h3, oif_some.2 ⟨h5, ob_some.2 ⟨x, h7, drIn_mono hc h8⟩⟩⟩
theorem drDo_mono (hc : ClLe cl cl') {es : List Ent} {op : IOp} {g : Option (Nat × Bool)} {m : Option (List Nat)} {d : DR} (hr : drDo cl st fr es h op g m = some d) : drDo cl' st fr es h op g m = some d := by
  obtain ⟨b, h1, h2⟩ := ob_some.1 hr
  refine ob_some.2 ⟨b, h1, ?_⟩
  cases b with
  | false => exact h2
  | true =>
    cases m with
    | none =>
      obtain ⟨p, h3, h4⟩ := ob_some.1 (show ob (iop cl st fr h op) (fun p => some (.mk p.1 p.2 (.mk [] (some [])))) = some d from h2)
      exact ob_some.2 ⟨p, iop_mono hc h3, h4⟩
    | some js => exact drHead_mono hc h2
theorem dops_mono (hc : ClLe cl cl') : ∀ {l : List (IOper × Option (List Nat))} {st : List AV} {es : List Ent} {fr : List AV} {h : Hp} {s : St}, dops cl l st es fr h = some s → dops cl' l st es fr h = some s
  | [], st, es, fr, h, s, hr => hr
  | (.mk dst op g, m) :: l, st, es, fr, h, s, hr => by
    obtain ⟨p, h1, h2⟩ := ob_some.1 (show ob (drDo cl st fr es h op g m) (fun p => DR.casesOn (motive := fun _ => Option St) p (fun v h' e => dops cl l (v :: st) (e :: es) (putD fr dst v) h')) = some s from hr)
    obtain ⟨v, h', e⟩ := p
    exact ob_some.2 ⟨_, drDo_mono hc h1, dops_mono hc h2⟩
theorem runCl_mono (hi : RcLe ih ih') : ClLe (runCl F ih) (runCl F ih') := by
  intro f vs h r hr
  cases F with
  | mk T X =>
    cases hx : X f vs h with
    | some v =>
      have h1 : ∀ ih : RC, runCl (.mk T X) ih f vs h = some v := by
        intro ih
        show Option.rec (motive := fun _ => R) _ (fun r => some r) (X f vs h) = _
        rw [hx]
      rw [h1] at hr ⊢
      exact hr
    | none =>
      have e : ∀ ih : RC, runCl (.mk T X) ih f vs h = ob (T f) (fun fn => IF.casesOn (motive := fun _ => R) fn (fun body nargs nslots res => oif (Nat.beq (llen vs) nargs) (ob (ih body (.mk (lapp vs (undefs nslots)) h)) (fun p =>
          Ex.casesOn (motive := fun _ => R) p.1 (result p.2 res) (fun _ => none) (result p.2 res))) none)) := by
        intro ih
        show Option.rec (motive := fun _ => R) _ (fun r => some r) (X f vs h) = _
        rw [hx]
      rw [e] at hr ⊢
      obtain ⟨fn, h1, h2⟩ := ob_some.1 hr
      refine ob_some.2 ⟨fn, h1, ?_⟩
      cases fn with
      | mk body nargs nslots res =>
        obtain ⟨h3, h4⟩ := oif_some.1 (show oif (Nat.beq (llen vs) nargs) (ob (ih body (.mk (lapp vs (undefs nslots)) h)) (fun p => Ex.casesOn (motive := fun _ => R) p.1 (result p.2 res) (fun _ => none) (result p.2 res))) none = some r from h2)
        obtain ⟨p, h5, h6⟩ := ob_some.1 h4
        exact oif_some.2 ⟨h3, ob_some.2 ⟨p, hi _ _ _ h5, h6⟩⟩
theorem rcStep_mono (hi : RcLe ih ih') : RcLe (rcStep F ih) (rcStep F ih') := by
  intro c s r hr
  have hc := runCl_mono (F := F) hi
  cases c with
  | skip => exact hr
  | exit id => exact hr
  | ret => exact hr
  | region ops =>
    cases s with
    | mk fr h =>
      obtain ⟨s, h1, h2⟩ := ob_some.1 (show ob (iops (runCl F ih) ops [] fr h) (fun s => some (.normal, s)) = some r from hr)
      exact ob_some.2 ⟨s, iops_mono hc h1, h2⟩
  | draw ops =>
    cases s with
    | mk fr h =>
      obtain ⟨s, h1, h2⟩ := ob_some.1 (show ob (dops (runCl F ih) ops [] [] fr h) (fun s => some (.normal, s)) = some r from hr)
      exact ob_some.2 ⟨s, dops_mono hc h1, h2⟩
  | seq a b =>
    obtain ⟨p, h1, h2⟩ := ob_some.1 (show ob (ih a s) (fun p => Ex.casesOn (motive := fun _ => Option (Ex × St)) p.1 (ih b p.2) (fun _ => some p) (some p)) = some r from hr)
    refine ob_some.2 ⟨p, hi _ _ _ h1, ?_⟩
    obtain ⟨e, s'⟩ := p
    cases e with
    | normal => exact hi _ _ _ h2
    | exit id => exact h2
    | ret => exact h2
  | cond c x y =>
    cases s with
    | mk fr h =>
      obtain ⟨v, h1, h2⟩ := ob_some.1 (show ob (ev [] fr c) (fun v => sBool v (fun t => ih (oif t x y) (.mk fr h))) = some r from hr)
      obtain ⟨t, rfl, h3⟩ := sBool_some h2
      exact ob_some.2 ⟨_, h1, hi _ _ _ h3⟩
  | block id b =>
    obtain ⟨p, h1, h2⟩ := ob_some.1 (show ob (ih b s) (fun p => Ex.casesOn (motive := fun _ => Option (Ex × St)) p.1 (some p) (fun k => oif (Nat.beq k id) (some (.normal, p.2)) (some p)) (some p)) = some r from hr)
    exact ob_some.2 ⟨p, hi _ _ _ h1, h2⟩
  | loop b =>
    obtain ⟨p, h1, h2⟩ := ob_some.1 (show ob (ih b s) (fun p => Ex.casesOn (motive := fun _ => Option (Ex × St)) p.1 (ih (.loop b) p.2) (fun _ => some p) (some p)) = some r from hr)
    refine ob_some.2 ⟨p, hi _ _ _ h1, ?_⟩
    obtain ⟨e, s'⟩ := p
    cases e with
    | normal => exact hi _ _ _ h2
    | exit id => exact h2
    | ret => exact h2
theorem run_mono1 (F : Fns) : ∀ n, RcLe (run F n) (run F (n + 1))
  | 0 => fun c s r hr => by cases hr
  | n + 1 => rcStep_mono (run_mono1 F n)
theorem run_mono (F : Fns) {n m : Nat} (h : n ≤ m) : RcLe (run F n) (run F m) := by
  induction m with
  | zero => obtain rfl : n = 0 := by omega
            exact fun c s r hr => hr
  | succ m ih =>
    rcases Nat.lt_or_ge m n with h1 | h1
    · obtain rfl : n = m + 1 := by omega
      exact fun c s r hr => hr
    · exact fun c s r hr => run_mono1 F m _ _ _ (ih h1 _ _ _ hr)
end
/-! ### runs, whatever the fuel -/
def CodeR (F : Fns) (c : IC) (s : St) (e : Ex) (s' : St) : Prop := ∃ n, run F n c s = some (e, s')
def FnR (F : Fns) (f : FuncId) (vs : List AV) (h : Hp) (v : AV) (h' : Hp) : Prop := ∃ n, runFn F n f vs h = some (v, h')
def OpsR (F : Fns) (l : List IOper) (st fr : List AV) (h : Hp) (s : St) : Prop := ∃ n, iops (runCl F (run F n)) l st fr h = some s
def DopsR (F : Fns) (l : List (IOper × Option (List Nat))) (st : List AV) (es : List Ent) (fr : List AV) (h : Hp) (s : St) : Prop := ∃ n, dops (runCl F (run F n)) l st es fr h = some s
section
variable {F : Fns} {st fr : List AV} {h h' h'' : Hp} {s s' s'' : St} {e : Ex}
theorem codeR_skip : CodeR F .skip s .normal s := ⟨1, rfl⟩
theorem codeR_ret : CodeR F .ret s .ret s := ⟨1, rfl⟩
theorem codeR_exit {id : Nat} : CodeR F (.exit id) s (.exit id) s := ⟨1, rfl⟩
theorem codeR_seq {a b : IC} (h1 : CodeR F a s .normal s') (h2 : CodeR F b s' e s'') : CodeR F (.seq a b) s e s'' := by
  obtain ⟨n, h1⟩ := h1
  obtain ⟨m, h2⟩ := h2
  exact ⟨max n m + 1, ob_some.2 ⟨_, run_mono F (Nat.le_max_left n m) _ _ _ h1, run_mono F (Nat.le_max_right n m) _ _ _ h2⟩⟩
theorem codeR_seq_exit {a b : IC} {id : Nat} (h1 : CodeR F a s (.exit id) s') : CodeR F (.seq a b) s (.exit id) s' := by
  obtain ⟨n, h1⟩ := h1
  exact ⟨n + 1, ob_some.2 ⟨_, h1, rfl⟩⟩
theorem codeR_seq_ret {a b : IC} (h1 : CodeR F a s .ret s') : CodeR F (.seq a b) s .ret s' := by
  obtain ⟨n, h1⟩ := h1
  exact ⟨n + 1, ob_some.2 ⟨_, h1, rfl⟩⟩
theorem codeR_cond {c : Od} {x y : IC} {t : Bool} (hc : ev [] fr c = some (.s (.bool t))) (h1 : CodeR F (if t = true then x else y) (.mk fr h) e s') : CodeR F (.cond c x y) (.mk fr h) e s' := by
  obtain ⟨n, h1⟩ := h1
  refine ⟨n + 1, ob_some.2 ⟨_, hc, ?_⟩⟩
  show run F n (oif t x y) (.mk fr h) = _
  rw [oif_if]; exact h1
theorem codeR_block {id : Nat} {b : IC} (h1 : CodeR F b s .normal s') : CodeR F (.block id b) s .normal s' := by
  obtain ⟨n, h1⟩ := h1
  exact ⟨n + 1, ob_some.2 ⟨_, h1, rfl⟩⟩
theorem codeR_block_ret {id : Nat} {b : IC} (h1 : CodeR F b s .ret s') : CodeR F (.block id b) s .ret s' := by
  obtain ⟨n, h1⟩ := h1
  exact ⟨n + 1, ob_some.2 ⟨_, h1, rfl⟩⟩
theorem codeR_block_exit {id k : Nat} {b : IC} (h1 : CodeR F b s (.exit k) s') : CodeR F (.block id b) s (if k = id then .normal else .exit k) s' := by
  obtain ⟨n, h1⟩ := h1
  refine ⟨n + 1, ob_some.2 ⟨_, h1, ?_⟩⟩
  show oif (Nat.beq k id) (some (Ex.normal, s')) (some (.exit k, s')) = _
  rw [oif_if]
  by_cases hk : k = id
  · rw [if_pos hk, if_pos ((nbeq k id).symm ▸ hk)]
  · rw [if_neg hk, if_neg (fun e => hk ((nbeq k id) ▸ e))]
theorem codeR_loop {b : IC} (h1 : CodeR F b s .normal s') (h2 : CodeR F (.loop b) s' e s'') : CodeR F (.loop b) s e s'' := by
  obtain ⟨n, h1⟩ := h1
  obtain ⟨m, h2⟩ := h2
  exact ⟨max n m + 1, ob_some.2 ⟨_, run_mono F (Nat.le_max_left n m) _ _ _ h1, run_mono F (Nat.le_max_right n m) _ _ _ h2⟩⟩
theorem codeR_loop_exit {b : IC} {id : Nat} (h1 : CodeR F b s (.exit id) s') : CodeR F (.loop b) s (.exit id) s' := by
  obtain ⟨n, h1⟩ := h1
  exact ⟨n + 1, ob_some.2 ⟨_, h1, rfl⟩⟩
theorem codeR_loop_ret {b : IC} (h1 : CodeR F b s .ret s') : CodeR F (.loop b) s .ret s' := by
  obtain ⟨n, h1⟩ := h1
  exact ⟨n + 1, ob_some.2 ⟨_, h1, rfl⟩⟩
theorem codeR_region {ops : List IOper} (h1 : OpsR F ops [] fr h s') : CodeR F (.region ops) (.mk fr h) .normal s' := by
  obtain ⟨n, h1⟩ := h1
  exact ⟨n + 1, ob_some.2 ⟨_, h1, rfl⟩⟩
theorem codeR_draw {ops : List (IOper × Option (List Nat))} (h1 : DopsR F ops [] [] fr h s') : CodeR F (.draw ops) (.mk fr h) .normal s' := by
  obtain ⟨n, h1⟩ := h1
  exact ⟨n + 1, ob_some.2 ⟨_, h1, rfl⟩⟩
theorem opsR_nil : OpsR F [] st fr h (.mk fr h) := ⟨0, rfl⟩
theorem opsR_step {dst : Option Nat} {op : IOp} {g : Option (Nat × Bool)} {l : List IOper} {v : AV} (h1 : ∀ cl, opDo cl st fr h op g = some (v, h')) (h2 : OpsR F l (v :: st) (putD fr dst v) h' s) : OpsR F (.mk dst op g :: l) st fr h s := by
  obtain ⟨n, h2⟩ := h2
  exact ⟨n, ob_some.2 ⟨_, h1 _, h2⟩⟩
theorem opsR_pure {dst : Option Nat} {o : PO} {l : List IOper} {v : AV} (h1 : pop st fr o = some v) (h2 : OpsR F l (v :: st) (putD fr dst v) h s) : OpsR F (.mk dst (.p o) none :: l) st fr h s :=
  opsR_step (h' := h) (fun cl => by show ob (pop st fr o) (fun v => ok v h) = _; rw [h1]; rfl) h2
theorem clR_of {f : FuncId} {vs : List AV} {v : AV} (h1 : FnR F f vs h v h') : ∃ n, ∀ m, n ≤ m → runCl F (run F m) f vs h = some (v, h') := by
  obtain ⟨n, h1⟩ := h1
  exact ⟨n, fun m hm => runCl_mono (run_mono F hm) _ _ _ _ h1⟩
theorem opsR_call {dst : Option Nat} {f : FuncId} {as : List Od} {l : List IOper} {vs : List AV} {v : AV} (ha : evs st fr as = some vs) (h1 : FnR F f vs h v h') (h2 : OpsR F l (v :: st) (putD fr dst v) h' s) : OpsR F (.mk dst (.a (.call f as)) none :: l) st fr h s := by
  obtain ⟨n, h1⟩ := clR_of h1
  obtain ⟨m, h2⟩ := h2
  refine ⟨max n m, ob_some.2 ⟨(v, h'), ?_, iops_mono (runCl_mono (run_mono F (Nat.le_max_right n m))) h2⟩⟩
  exact ob_some.2 ⟨true, rfl, ob_some.2 ⟨vs, ha, h1 _ (Nat.le_max_left n m)⟩⟩
theorem dopsR_nil {es : List Ent} : DopsR F [] st es fr h (.mk fr h) := ⟨0, rfl⟩
theorem dopsR_step {es : List Ent} {dst : Option Nat} {op : IOp} {g : Option (Nat × Bool)} {m : Option (List Nat)} {l : List (IOper × Option (List Nat))} {v : AV} {en : Ent} (h1 : ∀ cl, drDo cl st fr es h op g m = some (.mk v h' en)) (h2 : DopsR F l (v :: st) (en :: es) (putD fr dst v) h' s) : DopsR F ((.mk dst op g, m) :: l) st es fr h s := by
  obtain ⟨n, h2⟩ := h2
  exact ⟨n, ob_some.2 ⟨_, h1 _, h2⟩⟩
theorem dopsR_pure {es : List Ent} {dst : Option Nat} {o : PO} {l : List (IOper × Option (List Nat))} {v : AV} (h1 : pop st fr o = some v) (h2 : DopsR F l (v :: st) (.mk [] (some []) :: es) (putD fr dst v) h s) : DopsR F ((.mk dst (.p o) none, none) :: l) st es fr h s :=
  dopsR_step (h' := h) (fun cl => by
    show ob (iop cl st fr h (.p o)) (fun p => some (DR.mk p.1 p.2 (.mk [] (some [])))) = _
    rw [show iop cl st fr h (.p o) = ok v h from by show ob (pop st fr o) (fun v => ok v h) = _; rw [h1]; rfl]; rfl) h2
theorem dopsR_call {es : List Ent} {dst : Option Nat} {f : FuncId} {as : List Od} {l : List (IOper × Option (List Nat))} {vs : List AV} {v : AV} (ha : evs st fr as = some vs) (h1 : FnR F f vs h v h') (h2 : DopsR F l (v :: st) (.mk [] (some []) :: es) (putD fr dst v) h' s) : DopsR F ((.mk dst (.a (.call f as)) none, none) :: l) st es fr h s := by
  obtain ⟨n, h1⟩ := clR_of h1
  obtain ⟨m, h2⟩ := h2
  refine ⟨max n m, ob_some.2 ⟨DR.mk v h' (.mk [] (some [])), ?_, dops_mono (runCl_mono (run_mono F (Nat.le_max_right n m))) h2⟩⟩
  exact ob_some.2 ⟨true, rfl, ob_some.2 ⟨(v, h'), ob_some.2 ⟨vs, ha, h1 _ (Nat.le_max_left n m)⟩, rfl⟩⟩
/-- a function's run from its body's -/
theorem fnR_of {T : FuncId → Option IF} {X : FuncId → List AV → Hp → R} {f : FuncId} {vs : List AV} {v : AV} {body : IC} {nargs nslots : Nat} {res : List IR} (hx : X f vs h = none) (hT : T f = some (.mk body nargs nslots res)) (hl : llen vs = nargs)
    (h1 : CodeR (.mk T X) body (.mk (lapp vs (undefs nslots)) h) e s') (he : e = .normal ∨ e = .ret) (hr : result s' res = some (v, h')) : FnR (.mk T X) f vs h v h' := by
  obtain ⟨n, h1⟩ := h1
  refine ⟨n, ?_⟩
  show Option.rec (motive := fun _ => R) _ (fun r => some r) (X f vs h) = _
  rw [hx]
  refine ob_some.2 ⟨_, hT, ?_⟩
  refine oif_some.2 ⟨by rw [nbeq]; exact hl, ob_some.2 ⟨_, h1, ?_⟩⟩
  rcases he with rfl | rfl <;> exact hr
end
end Go.Proofs.YtmaaalpegnhjcaaDoor.Ev
