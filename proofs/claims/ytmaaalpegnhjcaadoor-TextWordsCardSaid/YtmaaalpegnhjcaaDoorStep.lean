/- Slots, guards, one operation at its place, a region in its text's order. No program in sight. -/
import Derived.Test.YtmaaalpegnhjcaaDoorMem
namespace Go.Proofs.YtmaaalpegnhjcaaDoor.Ev
open Go
set_option linter.unusedVariables false
set_option linter.unusedSimpArgs false
/-! ### slots -/
theorem idx_shift (x : Nat) : ∀ (l : List Nat) (k : Nat), idx x l (k + 1) = (idx x l k).map (· + 1)
  | [], k => rfl
  | a :: l, k => by
    simp only [idx]
    cases Nat.beq a x with
    | true => rfl
    | false => exact idx_shift x l (k + 1)
theorem idx_get {x : Nat} : ∀ {l : List Nat} {j : Nat}, idx x l 0 = some j → l[j]? = some x
  | [], j, h => by cases h
  | a :: l, j, h => by
    simp only [idx] at h
    cases hb : Nat.beq a x with
    | true => rw [hb] at h; cases h; rw [Nat.eq_of_beq_eq_true hb]; rfl
    | false =>
      rw [hb] at h
      simp only [cond_false] at h
      rw [idx_shift] at h
      obtain ⟨i, hi, rfl⟩ := Option.map_eq_some_iff.1 h
      simpa using idx_get hi
theorem idxL_shift (x : Nat) : ∀ (l : List (Option Nat)) (k : Nat), idxL x l (k + 1) = (idxL x l k).map (· + 1)
  | [], k => rfl
  | some a :: l, k => by
    simp only [idxL]
    cases Nat.beq a x with
    | true => rfl
    | false => exact idxL_shift x l (k + 1)
  | none :: l, k => by
    simp only [idxL]
    exact idxL_shift x l (k + 1)
theorem idxL_get {x : Nat} : ∀ {l : List (Option Nat)} {j : Nat}, idxL x l 0 = some j → l[j]? = some (some x)
  | [], j, h => by cases h
  | some a :: l, j, h => by
    simp only [idxL] at h
    cases hb : Nat.beq a x with
    | true => rw [hb] at h; cases h; rw [Nat.eq_of_beq_eq_true hb]; rfl
    | false =>
      rw [hb] at h
      simp only [cond_false] at h
      rw [idxL_shift] at h
      obtain ⟨i, hi, rfl⟩ := Option.map_eq_some_iff.1 h
      simpa using idxL_get hi
  | none :: l, j, h => by
    simp only [idxL] at h
    rw [idxL_shift] at h
    obtain ⟨i, hi, rfl⟩ := Option.map_eq_some_iff.1 h
    simpa using idxL_get hi
theorem idxL_cons (x : Nat) (d : Option Nat) (l : List (Option Nat)) : idxL x (d :: l) 0 = if d = some x then some 0 else (idxL x l 0).map (· + 1) := by
  cases d with
  | none =>
    simp only [idxL]
    rw [idxL_shift]
    simp
  | some a =>
    simp only [idxL]
    cases hb : Nat.beq a x with
    | true => rw [Nat.eq_of_beq_eq_true hb]; simp
    | false =>
      have : a ≠ x := fun e => by subst e; rw [Nat.beq_refl] at hb; cases hb
      simp only [cond_false, Option.some.injEq, this, if_false]
      exact idxL_shift x l 0
section
variable (A : Nat → Int)
/-- the frame's slots; the region's own -/
def FrR (φ : Phi) (π : List Nat) (fr : List AV) (a : Act) : Prop := ∀ t j v, idx t π 0 = some j → fr[j]? = some v → cV A φ v (a.tmps.getD t undef)
def LoR (φ : Phi) (loc : List (Option Nat)) (st : List AV) (a : Act) : Prop := ∀ t i v, idxL t loc 0 = some i → st[i]? = some v → cV A φ v (a.tmps.getD t undef)
end
section
variable {P : Program} {T : Tr TI} {w w' : World} {A : Nat → Int} {φ ψ : Phi} {h h' : Hp} {π : List Nat} {loc : List (Option Nat)} {st fr : List AV} {a : Act} {W : Nat → Prop}
theorem FrR.mono (hle : φ.le ψ) (k : FrR A φ π fr a) : FrR A ψ π fr a := fun t j v h1 h2 => (k t j v h1 h2).mono hle
theorem LoR.mono (hle : φ.le ψ) (k : LoR A φ loc st a) : LoR A ψ loc st a := fun t j v h1 h2 => (k t j v h1 h2).mono hle
theorem cConst_sound {v : Value} {x : AV} (h : cConst v = some x) : cV A φ x v := by
  unfold cConst at h
  split at h <;> first | (cases h; rfl) | (cases h; exact .inr ⟨rfl, rfl⟩) | cases h
theorem conB_get : ∀ {l : List SV} {r : List Value}, conB l r = true → ∀ (j : Nat) (x : SV), l[j]? = some x → ∃ u, r[j]? = some u ∧ sv1 x u = true
  | [], r, h, j, x, e => by cases j <;> cases e
  | s :: l, [], h, j, x, e => by cases h
  | s :: l, v :: r, h, j, x, e => by
    simp only [conB, Bool.and_eq_true] at h
    cases j with
    | zero => cases e; exact ⟨v, rfl, h.1⟩
    | succ j => exact conB_get h.2 j x e
theorem ctor_inj {k k' : IntKind} (h : Nat.beq k.ctorIdx k'.ctorIdx = true) : k = k' := by
  cases k <;> cases k' <;> first | rfl | exact absurd h (by decide)
theorem sv1_cD {k : Nat → Option (Array Value)} {x : SV} {u : Value} (h : sv1 x u = true) : cD A k x u := by
  unfold sv1 at h
  split at h
  · rename_i k n k' m
    rw [Bool.and_eq_true, beq_iff_eq] at h
    obtain ⟨h1, rfl⟩ := h
    obtain rfl := ctor_inj h1
    exact .int _ _
  · rename_i l b
    rw [beq_iff_eq] at h
    subst h
    exact .str _
  · cases h
theorem glob_cp (φ : Phi) {g : Nat} {cs : List SV} (hg : glob g = some cs) : cS A φ (.cp cs) (.pointer (some ⟨g, 0, none⟩)) := by
  obtain ⟨c, h1, h2⟩ := φ.g.con g cs hg
  refine ⟨g, 0, c, h1, rfl, fun j x hx => ?_⟩
  obtain ⟨u, h3, h4⟩ := conB_get h2 j x hx
  exact ⟨u, by rw [Nat.zero_add, ← Array.getElem?_toList]; exact h3, sv1_cD h4⟩
theorem opnd_of (hf : FrR A φ π fr a) (hl : LoR A φ loc st a) (os : List Operand) : Opnd A φ π loc st fr os a.eval := by
  intro x _ y v hy hv
  cases x with
  | tmp t =>
    simp only [cO] at hy
    split at hy
    · rename_i i hi
      cases hy
      have hv' : lget st i = some v := hv
      rw [lget_eq] at hv'
      exact hl t i v hi hv'
    · split at hy
      · rename_i j hj
        cases hy
        have hv' : lget fr j = some v := hv
        rw [lget_eq] at hv'
        exact hf t j v hj hv'
      · cases hy
  | const c =>
    obtain ⟨z, hz, rfl⟩ := Option.map_eq_some_iff.1 (show (cConst c).map .c = some y from hy)
    cases hv
    exact cConst_sound hz
  | func f =>
    cases hy
    cases hv
    exact ⟨[], rfl, .nil⟩
  | global g =>
    simp only [cO] at hy
    cases hg : glob g with
    | none => rw [hg] at hy; cases hy
    | some cs =>
      rw [hg] at hy
      cases hy
      cases hv
      exact glob_cp φ hg
theorem getD_put {d : Nat} (hd : d < a.tmps.size) (rv : Value) (t : Nat) : (a.put (some d) rv).tmps.getD t undef = if t = d then rv else a.tmps.getD t undef := by
  simp only [Act.put, Array.getD_eq_getD_getElem?, Array.getElem?_setIfInBounds]
  by_cases e : d = t
  · subst e; simp [hd]
  · rw [if_neg e, if_neg (fun h => e h.symm)]
theorem put_size (dst : Option Tmp) (rv : Value) : (a.put dst rv).tmps.size = a.tmps.size := by
  cases dst <;> simp [Act.put]
theorem put_defers (dst : Option Tmp) (rv : Value) : (a.put dst rv).defers = a.defers := by
  cases dst <;> simp [Act.put]
theorem FrR.put (k : FrR A φ π fr a) {nt : Nat} (hnt : nt ≤ a.tmps.size) {dst : Option Tmp} (hd : dstOk nt dst = true) {v : AV} {rv : Value} (hv : cV A φ v rv) : FrR A φ π (putD fr (cDst π dst) v) (a.put dst rv) := by
  cases dst with
  | none => exact k
  | some d =>
    have hd' : d < a.tmps.size := by
      have : Nat.ble (d + 1) nt = true := hd
      exact Nat.lt_of_lt_of_le (Nat.le_of_ble_eq_true this) hnt
    intro t j u hj hu
    rw [getD_put hd']
    cases hc : cDst π (some d) with
    | none =>
      rw [hc] at hu
      have : t ≠ d := fun e => by subst e; rw [show idx t π 0 = none from hc] at hj; cases hj
      rw [if_neg this]
      exact k t j u hj hu
    | some i =>
      rw [hc] at hu
      have hu' : (lset fr i v)[j]? = some u := hu
      rw [lset_eq] at hu'
      have hi : idx d π 0 = some i := hc
      by_cases e : t = d
      · subst e
        rw [hi] at hj
        cases hj
        rw [if_pos rfl]
        rw [List.getElem?_set] at hu'
        simp only [if_true] at hu'
        split at hu'
        · cases hu'; exact hv
        · cases hu'
      · rw [if_neg e]
        have : i ≠ j := by
          rintro rfl
          have h1 := idx_get hj
          have h2 := idx_get hi
          rw [h1] at h2
          cases h2
          exact e rfl
        rw [List.getElem?_set_ne this] at hu'
        exact k t j u hj hu'
theorem LoR.put (k : LoR A φ loc st a) {nt : Nat} (hnt : nt ≤ a.tmps.size) {dst : Option Tmp} (hd : dstOk nt dst = true) {v : AV} {rv : Value} (hv : cV A φ v rv) : LoR A φ (dst :: loc) (v :: st) (a.put dst rv) := by
  intro t i u hi hu
  rw [idxL_cons] at hi
  cases dst with
  | none =>
    simp only [reduceCtorEq, if_false] at hi
    obtain ⟨i', hi', rfl⟩ := Option.map_eq_some_iff.1 hi
    exact k t i' u hi' (by simpa using hu)
  | some d =>
    have hd' : d < a.tmps.size := by
      have : Nat.ble (d + 1) nt = true := hd
      exact Nat.lt_of_lt_of_le (Nat.le_of_ble_eq_true this) hnt
    rw [getD_put hd']
    by_cases e : d = t
    · subst e
      simp only [if_true] at hi
      cases hi
      cases hu
      rw [if_pos rfl]
      exact hv
    · rw [if_neg (fun h => e h.symm)]
      simp only [Option.some.injEq, e, if_false] at hi
      obtain ⟨i', hi', rfl⟩ := Option.map_eq_some_iff.1 hi
      exact k t i' u hi' (by simpa using hu)
/-! ### guards -/
theorem guard_sound {ops : Array Oper} {k : Nat} (hloc : ∀ j, j < k → loc[k - 1 - j]? = (ops[j]?).map (·.dst)) (hsz : ∀ j d, j < k → loc[k - 1 - j]? = some (some d) → d < a.tmps.size) {o : Oper} (hl : ∀ j want d v, o.guard = some (j, want) → idxL d loc 0 = some (k - 1 - j) → st[k - 1 - j]? = some v → cV A φ v (a.tmps.getD d undef)) {g : Option (Nat × Bool)} (hg : cGuard loc k o.guard = some g) {b : Bool} (hb : goes st g = some b) :
    Region.wanted o (yielded ops a.tmps) = b := by
  cases hgd : o.guard with
  | none =>
    rw [hgd] at hg
    cases hg
    cases hb
    simp [Region.wanted, hgd]
  | some p =>
    obtain ⟨j, want⟩ := p
    rw [hgd] at hg
    simp only [cGuard] at hg
    cases hj : Nat.blt j k with
    | false => rw [hj] at hg; cases hg
    | true =>
      rw [hj] at hg
      simp only [cond_true] at hg
      have hjk : j < k := Nat.le_of_ble_eq_true hj
      split at hg
      · rename_i d hd
        split at hg
        · rename_i i hi
          cases hbe : Nat.beq i (k - 1 - j) with
          | false => rw [hbe] at hg; cases hg
          | true =>
            rw [hbe] at hg
            cases hg
            obtain rfl := Nat.eq_of_beq_eq_true hbe
            obtain ⟨v, hv, h2⟩ := ob_some.1 (show ob (lget st (k - 1 - j)) (fun v => svc (some false) v (fun s => vBool s (fun c => some (oif want c (bnot c))))) = some b from hb)
            rw [lget_eq] at hv
            have hc := hl j want d v hgd hi hv
            have hlt := hsz j d hjk hd
            have hop : ((ops[j]?).bind (·.dst)) = some d := by
              have := hloc j hjk
              rw [hd] at this
              cases h3 : ops[j]? with
              | none => rw [h3] at this; cases this
              | some o' => rw [h3] at this; simp at this; simp [← this]
            have hget : a.tmps[d]? = some (a.tmps.getD d undef) := by
              rw [Array.getD_eq_getD_getElem?, Array.getElem?_eq_getElem hlt]; rfl
            have hy : yielded ops a.tmps j = match a.tmps.getD d undef with | .bool b => some b | _ => none := by
              simp only [yielded, hop, Option.bind_some, hget]
              cases a.tmps.getD d undef <;> rfl
            rcases svc_some h2 with ⟨s, rfl, h4⟩ | ⟨rfl, h4⟩
            · obtain ⟨c, rfl, h5⟩ := vBool_some h4
              cases h5
              have hc' : a.tmps.getD d undef = .bool c := hc
              simp only [Region.wanted, hgd, hy, hc']
              cases want <;> cases c <;> rfl
            · cases h4
              have hc' : a.tmps.getD d undef = undef := hc
              simp only [Region.wanted, hgd]
              rw [hy, hc']
              cases want <;> rfl
        · cases hg
      · cases hg
/-! ### one operation -/
def FnOk (P : Program) (f : FuncId) : Prop := ∃ fn, P.funcs[f]? = some fn ∧ fn.body.isNone = false ∧ (fn.name == "runtime.NumGoroutine") = false
/-- what a call does that the interpreter has carried out -/
def CallR (P : Program) (A : Nat → Int) (f : FuncId) (vs : List AV) (h : Hp) (v : AV) (h' : Hp) : Prop :=
  FnOk P f ∧ ∀ φ w (args : Array Value), Rel A φ h w → All2 (cV A φ) vs args.toList →
    Calls P f args w (fun e w' => ∃ rv φ', e = .returned rv ∧ Step (fun n => h.lo ≤ n) φ φ' h h' w w' ∧ Rel A φ' h' w' ∧ cV A φ' v rv)
def ClOk (P : Program) (A : Nat → Int) (cl : FuncId → List AV → Hp → R) : Prop := ∀ f vs h v h', cl f vs h = some (v, h') → CallR P A f vs h v h'
theorem run_callFunc {f : FuncId} (hf : FnOk P f) (args : Array Value) : (callFunc f args).run P w = .ok (.enter f args) w := by
  obtain ⟨fn, h1, h2, h3⟩ := hf
  simp only [callFunc, Sem.run_bind, run_program, Result.andThen_ok, h1, h3, Bool.false_eq_true, if_false, h2, Sem.run_pure]
theorem wp_of_next {o : Oper} {n : Next} {rv : Value} (hr : (execOp a.eval o).run P w = .ok n w') (hn : NextV n rv) {K : Act → World → Prop} {Q : Exit → Act → World → Prop} (h : K (a.put o.dst rv) w') : o.wp P a w K Q := by
  unfold Oper.wp
  rw [hr]
  cases n <;> first | (cases hn; exact h) | exact (show False from hn).elim
theorem capAVs_sound : ∀ {l : List (Nat × Nat)} {vs : List Value}, All2 (fun p x => cPtr φ p.1 p.2 x) l vs → All2 (cV A φ) (capAVs l) vs
  | _, _, .nil => .nil
  | _, _, .cons h k => .cons h (capAVs_sound k)
theorem cOp_call {op : Op} {ao : AO} (hc : cOp T π loc op = some (.a ao)) (hn : isCall ao) : ∃ c, op = .call c := by
  cases op with
  | call c => exact ⟨c, rfl⟩
  | alloc e => obtain ⟨_, _, e⟩ := Option.map_eq_some_iff.1 hc; cases e; exact hn.elim
  | box e x => obtain ⟨_, _, e⟩ := Option.map_eq_some_iff.1 hc; cases e; exact hn.elim
  | buildSlice t n ps =>
    simp only [cOp] at hc
    split at hc
    · rename_i z hz
      cases hb : Nat.ble (n * z.2.size) 16777216 with
      | true => rw [hb] at hc; obtain ⟨_, _, e⟩ := Option.map_eq_some_iff.1 hc; cases e; exact hn.elim
      | false => rw [hb] at hc; cases hc
    · cases hc
  | makeSlice t l c => simp only [cOp] at hc; split at hc <;> cases hc; exact hn.elim
  | load t x =>
    simp only [cOp] at hc
    split at hc
    · rename_i ti y hti hy
      cases hb : ti1 ti with
      | true => rw [hb] at hc; cases hc; exact hn.elim
      | false => rw [hb] at hc; cases hc
    · cases hc
  | store t x y => simp only [cOp] at hc; split at hc <;> cases hc; exact hn.elim
  | move x => obtain ⟨_, _, e⟩ := Option.map_eq_some_iff.1 hc; cases e
  | assign x => obtain ⟨_, _, e⟩ := Option.map_eq_some_iff.1 hc; cases e
  | pick c a b => simp only [cOp] at hc; split at hc <;> cases hc
  | build t ps =>
    simp only [cOp] at hc
    split at hc
    · split at hc
      · obtain ⟨_, _, e⟩ := Option.map_eq_some_iff.1 hc; cases e
      · split at hc
        · obtain ⟨_, _, e⟩ := Option.map_eq_some_iff.1 hc; cases e
        · cases hc
      · cases hc
    · cases hc
  | binOp op t x y yt =>
    simp only [cOp] at hc
    split at hc
    · cases hi : isIntT T t with
      | true => rw [hi] at hc; obtain ⟨_, _, e⟩ := Option.map_eq_some_iff.1 hc; cases e
      | false =>
        rw [hi] at hc
        simp only [cond_false] at hc
        cases hsl : (sliceOf T t).isSome with
        | true => rw [hsl] at hc; obtain ⟨_, _, e⟩ := Option.map_eq_some_iff.1 hc; cases e
        | false =>
          rw [hsl] at hc
          simp only [cond_false] at hc
          split at hc
          · cases hc
          · cases hpt : isPtrT T t with
            | true => rw [hpt] at hc; cases hc; exact hn.elim
            | false =>
              rw [hpt] at hc
              cases hst : isStrT T t with
              | true => rw [hst] at hc; cases hc; exact hn.elim
              | false =>
                rw [hst] at hc
                simp only [cond_false] at hc
                rename_i y' _ _ _ _ _ _ _
                cases hif : (isIfcT T t && isNilI y') with
                | true => rw [hif] at hc; cases hc; exact hn.elim
                | false => rw [hif] at hc; cases hc
          · split at hc
            · cases hst : isStrT T t with
              | true => rw [hst] at hc; cases hc; exact hn.elim
              | false => rw [hst] at hc; cases hc
            · cases hc
    · cases hc
  | unOp op t x => cases op <;> first | (obtain ⟨_, _, e⟩ := Option.map_eq_some_iff.1 hc; cases e; done) | (cases hc; exact hn.elim)
  | makeFunc fn fst caps =>
    cases fn <;> first | (cases hc; exact hn.elim) | skip
    simp only [cOp] at hc
    cases hb : Nat.beq fst.size 0 with
    | true => rw [hb] at hc; obtain ⟨_, _, e⟩ := Option.map_eq_some_iff.1 hc; cases e
    | false => rw [hb] at hc; cases hc
  | convert s d x =>
    simp only [cOp] at hc
    split at hc
    · split at hc
      · cases hc
      · cases hb : isBytesT T s with
        | true => rw [hb] at hc; cases hc; exact hn.elim
        | false => rw [hb] at hc; cases hc
      · cases hc
    · cases hc
  | nilCheck x => obtain ⟨_, _, e⟩ := Option.map_eq_some_iff.1 hc; cases e
  | slice t x lo hi mx =>
    cases mx with
    | some m => cases hi with
      | none => cases hc; exact hn.elim
      | some h => simp only [cOp] at hc; split at hc <;> cases hc
    | none =>
      simp only [cOp] at hc
      split at hc
      · cases hc
      · obtain ⟨_, _, e⟩ := Option.map_eq_some_iff.1 hc; cases e; exact hn.elim
      · cases hc
  | fieldAddr t x f => simp only [cOp] at hc; split at hc <;> cases hc
  | field t x f =>
    simp only [cOp] at hc
    split at hc
    · rename_i p _ _ _
      cases hb : ti1 p.2 with
      | true => rw [hb] at hc; cases hc
      | false => rw [hb] at hc; cases hc
    · cases hc
  | indexAddr t x i => simp only [cOp] at hc; split at hc <;> cases hc
  | index t x i =>
    simp only [cOp] at hc
    cases hst : isStrT T t with
    | true =>
      rw [hst] at hc
      simp only [cond_true] at hc
      split at hc <;> cases hc
    | false =>
    rw [hst] at hc
    simp only [cond_false] at hc
    split at hc
    · rename_i z _ _ _ _ _
      cases hb : ti1 z.2 with
      | true => rw [hb] at hc; cases hc
      | false => rw [hb] at hc; cases hc
    · cases hc
  | extract x i => obtain ⟨_, _, e⟩ := Option.map_eq_some_iff.1 hc; cases e
  | makeMap t r => cases r with
    | none => obtain ⟨_, _, e⟩ := Option.map_eq_some_iff.1 hc; cases e; exact hn.elim
    | some _ => cases hc; exact hn.elim
  | lookup t x k okf => simp only [cOp] at hc; split at hc <;> cases hc; exact hn.elim
  | mapUpdate t x k v => simp only [cOp] at hc; split at hc <;> cases hc; exact hn.elim
  | _ => cases hc; exact hn.elim
theorem op_sound (hT : Tys P T) {cl : FuncId → List AV → Hp → R} (hcl : ClOk P A cl) {o : Oper} (hE : Opnd A φ π loc st fr o.op.operands.toList a.eval) (k : Rel A φ h w) {op : IOp} (hc : cOp T π loc o.op = some op) {v : AV} (hv : iop cl st fr h op = some (v, h')) (W : Nat → Prop)
    (hW : W = clsW h (clsOf st fr op) ∨ W = fun n => h.lo ≤ n) {K : Act → World → Prop} {Q : Exit → Act → World → Prop}
    (hK : ∀ φ' rv w', Step W φ φ' h h' w w' → Rel A φ' h' w' → cV A φ' v rv → K (a.put o.dst rv) w') : o.wp P a w K Q := by
  cases op with
  | p po =>
    obtain ⟨v', hv', h2⟩ := ob_some.1 (show ob (pop st fr po) (fun v => ok v h) = some (v, h') from hv)
    cases h2
    obtain ⟨rv, hr, hcv⟩ := pop_sound (w := w) hT hE hc hv'
    exact wp_of_next hr rfl (hK φ rv w (Step.refl _ k rfl rfl rfl rfl) k hcv)
  | a ao =>
    by_cases hn : isCall ao
    · have hWl : W = fun n => h.lo ≤ n := by
        rcases hW with rfl | rfl
        · funext n
          cases ao <;> first | (exact (show False from hn).elim) | rfl
        · rfl
      subst hWl
      have call : ∀ f (args : Array Value) vs, (execOp a.eval o).run P w = .ok (.enter f args) w → All2 (cV A φ) vs args.toList → cl f vs h = some (v, h') → o.wp P a w K Q := by
        intro f args vs hr hvs hv
        unfold Oper.wp
        rw [hr, Oper.upon_enter]
        refine Calls.mono ((hcl f vs h v h' hv).2 φ w args k hvs) ?_
        rintro e w' ⟨rv, φ', rfl, s, r, hcv⟩
        exact hK φ' rv w' s r hcv
      cases ao with
      | call f as =>
        obtain ⟨vs, hvs, hv1⟩ := ob_some.1 (show ob (evs st fr as) (fun vs => cl f vs h) = some (v, h') from hv)
        obtain ⟨c, hop⟩ := cOp_call hc hn
        · obtain ⟨callee, args, ts⟩ := c
          rw [hop] at hc
          simp only [cOp, cCall] at hc
          split at hc
          · rename_i as' has
            split at hc
            · rename_i f'
              cases hc
              have hE' := evs_sound hE _ _ _ (fun x hx => by rw [hop]; exact mem_call hx) has hvs
              refine call f (args.map a.eval) vs ?_ (by simpa using hE') hv1
              have hok := (hcl f vs h v h' hv1).1
              simp only [execOp, hop, resolve, Act.eval, Deferred.ofValue, Sem.run_bind, Sem.run_pure, Result.andThen_ok, invoke, Array.append_empty, Array.empty_append]
              exact run_callFunc hok _
            · obtain ⟨y, _, e⟩ := Option.map_eq_some_iff.1 hc
              cases e
            · split at hc
              all_goals first
                | (cases hc; done)
                | (split at hc <;> first | (cases hc; done) | (obtain ⟨_, _, e⟩ := Option.map_eq_some_iff.1 hc; cases e; done) | (rename_i t _; cases hst : isStrT T t <;> rw [hst] at hc <;> first | (cases hc; done) | (obtain ⟨_, _, e⟩ := Option.map_eq_some_iff.1 hc; cases e; done)) | (rename_i t u _; cases hb : Nat.beq t u <;> rw [hb] at hc <;> first | (cases hc; done) | (obtain ⟨_, _, e⟩ := Option.map_eq_some_iff.1 hc; cases e)))
            · cases hc
          · cases hc
      | callv x as =>
        obtain ⟨u, hu, hv1⟩ := ob_some.1 (show ob (ev st fr x) (fun v => sFunc v (fun f caps => ob (evs st fr as) (fun vs => cl f (lapp vs (capAVs caps)) h))) = some (v, h') from hv)
        obtain ⟨f, caps, rfl, hv2⟩ := sFunc_some hv1
        obtain ⟨vs, hvs, hv3⟩ := ob_some.1 hv2
        obtain ⟨c, hop⟩ := cOp_call hc hn
        · obtain ⟨callee, args, ts⟩ := c
          rw [hop] at hc
          simp only [cOp, cCall] at hc
          split at hc
          · rename_i as' has
            split at hc
            · cases hc
            · rename_i _ x' _
              obtain ⟨y, hy, e⟩ := Option.map_eq_some_iff.1 hc
              cases e
              have hE' := evs_sound hE _ _ _ (fun x hx => by rw [hop]; exact mem_call hx) has hvs
              obtain ⟨us, hfv, hcaps⟩ := (show ∃ vs : List Value, a.eval x' = .func (.func f) #[] vs.toArray ∧ All2 (fun p x => cPtr φ p.1 p.2 x) caps vs from hE _ (by rw [hop]; exact mem_callee) _ _ hy hu)
              rw [lapp_eq] at hv3
              refine call f (args.map a.eval ++ us.toArray) (vs ++ capAVs caps) ?_ (by simpa using hE'.append (capAVs_sound hcaps)) hv3
              have hok := (hcl f _ h v h' hv3).1
              simp only [execOp, hop, resolve, hfv, Deferred.ofValue, Sem.run_bind, Sem.run_pure, Result.andThen_ok, invoke, Array.empty_append]
              exact run_callFunc hok _
            · split at hc
              all_goals first
                | (cases hc; done)
                | (split at hc <;> first | (cases hc; done) | (obtain ⟨_, _, e⟩ := Option.map_eq_some_iff.1 hc; cases e; done) | (rename_i t _; cases hst : isStrT T t <;> rw [hst] at hc <;> first | (cases hc; done) | (obtain ⟨_, _, e⟩ := Option.map_eq_some_iff.1 hc; cases e; done)) | (rename_i t u _; cases hb : Nat.beq t u <;> rw [hb] at hc <;> first | (cases hc; done) | (obtain ⟨_, _, e⟩ := Option.map_eq_some_iff.1 hc; cases e)))
            · cases hc
          · cases hc
      | _ => exact (show False from hn).elim
    · have h2 := aop_sound (cl := cl) hT hE k hc hn hv
      have h3 : MPost A W φ h w v h' ((execOp a.eval o).run P w) := by
        rcases hW with rfl | rfl
        · exact h2.1
        · exact h2.2
      obtain ⟨n, rv, w', φ', hr, hnv, s, r, hcv⟩ := h3
      exact wp_of_next hr hnv (hK φ' rv w' s r hcv)
end
end Go.Proofs.YtmaaalpegnhjcaaDoor.Ev
