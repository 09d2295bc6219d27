/- The abstract heap against the world: what holds of it, what a step of the interpreter changes and leaves. No program in sight. -/
import Derived.Test.YtmaaalpegnhjcaaDoorSim
namespace Go.Proofs.YtmaaalpegnhjcaaDoor.Ev
open Go
set_option linter.unusedVariables false
set_option linter.unnecessarySimpa false

/-! ### the abstract heap's parts -/
theorem Hp.get_eq (h : Hp) (n : Nat) : h.get n = if inHid h.hid n = true then none else h.tr.get n := by
  cases h with | mk a t lo hid => exact oif_if _ _ _
theorem Hp.get_some {h : Hp} {n : Nat} {x : AB} (k : h.get n = some x) : inHid h.hid n = false ∧ h.tr.get n = some x := by
  rw [Hp.get_eq] at k
  split at k
  · cases k
  · rename_i h'; exact ⟨by simpa using h', k⟩
theorem Hp.get_isSome {h : Hp} {n : Nat} (k : (h.get n).isSome = true) : inHid h.hid n = false ∧ (h.tr.get n).isSome = true := by
  cases e : h.get n with
  | none => rw [e] at k; cases k
  | some x => obtain ⟨h1, h2⟩ := Hp.get_some e; exact ⟨h1, by rw [h2]; rfl⟩
theorem Hp.isSome_get {h : Hp} {n : Nat} (k : inHid h.hid n = false) (k' : (h.tr.get n).isSome = true) : (h.get n).isSome = true := by
  rw [Hp.get_eq, if_neg (by simp [k])]; exact k'
@[simp] theorem Hp.next_put (h : Hp) (b : Nat) (x : Option AB) : (h.put b x).next = h.next := by cases h; rfl
@[simp] theorem Hp.lo_put (h : Hp) (b : Nat) (x : Option AB) : (h.put b x).lo = h.lo := by cases h; rfl
@[simp] theorem Hp.hid_put (h : Hp) (b : Nat) (x : Option AB) : (h.put b x).hid = h.hid := by cases h; rfl
theorem Hp.tr_put (h : Hp) (b : Nat) (x : Option AB) : (h.put b x).tr = h.tr.put (Nat.succ b) b x := by cases h; rfl
/-- one name more -/
noncomputable def Hp.push (h : Hp) (x : AB) : Hp := .mk (h.next + 1) (h.tr.put (Nat.succ h.next) h.next (some x)) h.lo h.hid
@[simp] theorem Hp.next_push (h : Hp) (x : AB) : (h.push x).next = h.next + 1 := rfl
@[simp] theorem Hp.lo_push (h : Hp) (x : AB) : (h.push x).lo = h.lo := rfl
@[simp] theorem Hp.hid_push (h : Hp) (x : AB) : (h.push x).hid = h.hid := rfl
theorem nw_some {β : Type} {h : Hp} {cs : List SV} {ty : TypeId} {f : Nat → Hp → Option β} {r : β} (k : nw h cs ty f = some r) :
    0 ≤ h.next ∧ inHid h.hid h.next = false ∧ f h.next (h.push (.arr cs ty)) = some r := by
  cases h with
  | mk n t lo hid =>
    have k' : oif (Nat.ble 0 n) (oif (inHid hid n) none (f n (.mk (Nat.succ n) (t.put (Nat.succ n) n (some (.arr cs ty))) lo hid))) none = some r := k
    obtain ⟨h1, h2⟩ := oif_some.1 k'
    rw [oif_if] at h2
    split at h2
    · cases h2
    · rename_i h3; exact ⟨Nat.le_of_ble_eq_true h1, Bool.eq_false_iff.2 h3, h2⟩
theorem wr_some {h h' : Hp} {b off : Nat} {xs : List SV} (k : wr h b off xs = some h') :
    h.lo ≤ b ∧ ∃ cs ty, h.get b = some (.arr cs ty) ∧ off + xs.length ≤ cs.length ∧ h' = h.put b (some (.arr (cs.take off ++ (xs ++ cs.drop (off + xs.length))) ty)) := by
  obtain ⟨h1, h2⟩ := oif_some.1 k
  obtain ⟨x, hx, h3⟩ := ob_some.1 h2
  cases x with
  | arr cs ty =>
    obtain ⟨cs', h4, h5⟩ := ob_some.1 h3
    obtain ⟨h6, rfl⟩ := (loverAt_some _).1 h4
    exact ⟨by simpa [nble] using h1, cs, ty, hx, h6, (Option.some.inj h5).symm⟩
  | map va es => cases h3
theorem rd_some {h : Hp} {b off n : Nat} {xs : List SV} (k : rd h b off n = some xs) :
    ∃ cs ty, h.get b = some (.arr cs ty) ∧ xs = (cs.drop off).take n ∧ xs.length = n := by
  obtain ⟨x, hx, h3⟩ := ob_some.1 k
  cases x with
  | arr cs ty =>
    have h3' : ltake n (ldrop off cs) = some xs := h3
    rw [ldrop_eq] at h3'
    obtain ⟨h6, rfl⟩ := (ltake_some _).1 h3'
    exact ⟨cs, ty, hx, rfl, by simp at h6 ⊢; omega⟩
  | map va es => cases h3

/-- a heap in form -/
structure WF (h : Hp) : Prop where
  pos : 1 ≤ h.next
  top : 0 ≤ h.next
  lo : h.lo ≤ h.next
  fresh : ∀ n, h.next ≤ n → h.tr.get n = none
theorem WF.lt {h : Hp} (k : WF h) {n : Nat} (e : (h.tr.get n).isSome = true) : n < h.next := by
  rcases Nat.lt_or_ge n h.next with h1 | h1
  · exact h1
  · rw [k.fresh n h1] at e; cases e
theorem WF.one {h : Hp} {n : Nat} (e : (h.tr.get n).isSome = true) : 1 ≤ n := by
  rcases Nat.eq_zero_or_pos n with h0 | h0
  · subst h0; rw [tr_get_zero] at e; cases e
  · exact h0
theorem lt_pow (b : Nat) : b < 2 ^ (Nat.succ b) := Nat.lt_trans (Nat.lt_succ_self b) Nat.lt_two_pow_self
theorem WF.put_same {h : Hp} (k : WF h) {b : Nat} (e : (h.tr.get b).isSome = true) (x : Option AB) : (h.put b x).tr.get b = x := by
  rw [Hp.tr_put]; exact tr_get_put_same x _ _ b (WF.one e) (lt_pow b)
theorem WF.put_ne {h : Hp} (k : WF h) {b : Nat} (e : (h.tr.get b).isSome = true) (x : Option AB) {n : Nat} (hn : n ≠ b) : (h.put b x).tr.get n = h.tr.get n := by
  rw [Hp.tr_put]; exact tr_get_put_ne x _ _ b n (WF.one e) (lt_pow b) hn
theorem WF.push_same {h : Hp} (k : WF h) (k' : 0 ≤ h.next) (x : AB) : (h.push x).tr.get h.next = some x :=
  tr_get_put_same _ _ _ _ k.pos (lt_pow _)
theorem WF.push_ne {h : Hp} (k : WF h) (k' : 0 ≤ h.next) (x : AB) {n : Nat} (hn : n ≠ h.next) : (h.push x).tr.get n = h.tr.get n :=
  tr_get_put_ne _ _ _ _ n k.pos (lt_pow _) hn
theorem WF.put {h : Hp} (k : WF h) {b : Nat} (e : (h.tr.get b).isSome = true) (x : Option AB) : WF (h.put b x) :=
  ⟨by simpa using k.pos, Nat.zero_le _, by simpa using k.lo, fun n hn => by
    rw [Hp.next_put] at hn
    have := k.lt e
    rw [k.put_ne e x (by omega)]; exact k.fresh n hn⟩
theorem WF.push {h : Hp} (k : WF h) (k' : 0 ≤ h.next) (x : AB) : WF (h.push x) :=
  ⟨by simp, Nat.zero_le _, by have := k.lo; simp; omega, fun n hn => by
    rw [Hp.next_push] at hn
    rw [k.push_ne k' x (by omega)]; exact k.fresh n (by omega)⟩

/-- what a step leaves of the abstract heap: names outside W, or out of sight, as they were -/
structure Abs (W : Nat → Prop) (h h' : Hp) : Prop where
  wf : WF h'
  nx : h.next ≤ h'.next
  lo : h'.lo = h.lo
  hid : h'.hid = h.hid
  keep : ∀ n, n < h.next → (¬ W n ∨ inHid h.hid n = true) → h'.tr.get n = h.tr.get n
  live : ∀ n, n < h.next → (h'.tr.get n).isSome = true → (h.tr.get n).isSome = true
  seen : ∀ n, h.next ≤ n → n < h'.next → inHid h.hid n = false
theorem Abs.refl (W : Nat → Prop) {h : Hp} (k : WF h) : Abs W h h := ⟨k, Nat.le_refl _, rfl, rfl, fun _ _ _ => rfl, fun _ _ h => h, fun n h1 h2 => by omega⟩
theorem Abs.mono {W V : Nat → Prop} (hw : ∀ n, W n → V n) {h h' : Hp} (k : Abs W h h') : Abs V h h' :=
  ⟨k.wf, k.nx, k.lo, k.hid, fun n hn hv => k.keep n hn (hv.imp (fun h h' => h (hw n h')) id), k.live, k.seen⟩
theorem Abs.trans {W : Nat → Prop} {h h' h'' : Hp} (a : Abs W h h') (b : Abs W h' h'') : Abs W h h'' :=
  ⟨b.wf, Nat.le_trans a.nx b.nx, b.lo.trans a.lo, b.hid.trans a.hid,
    fun n hn hv => (b.keep n (Nat.lt_of_lt_of_le hn a.nx) (by rwa [a.hid])).trans (a.keep n hn hv),
    fun n hn hv => a.live n hn (b.live n (Nat.lt_of_lt_of_le hn a.nx) hv), fun n h1 h2 => by
      rcases Nat.lt_or_ge n h'.next with h3 | h3
      · exact a.seen n h1 h3
      · rw [← a.hid]; exact b.seen n h3 h2⟩
theorem Abs.push (W : Nat → Prop) {h : Hp} (k : WF h) (k' : 0 ≤ h.next) (k2 : inHid h.hid h.next = false) (x : AB) : Abs W h (h.push x) :=
  ⟨k.push k' x, by simp, rfl, rfl, fun n hn _ => k.push_ne k' x (by omega), fun n hn hv => by rwa [k.push_ne k' x (by omega)] at hv, fun n h1 h2 => by
    rw [Hp.next_push] at h2
    obtain rfl : n = h.next := by omega
    exact k2⟩
theorem Abs.put {h : Hp} (k : WF h) {b : Nat} (e : (h.get b).isSome = true) (x : Option AB) : Abs (fun n => n = b) h (h.put b x) := by
  obtain ⟨e1, e2⟩ := Hp.get_isSome e
  refine ⟨k.put e2 x, by simp, by simp, by simp, fun n hn hv => k.put_ne e2 x ?_, fun n hn hv => ?_, fun n h1 h2 => by rw [Hp.next_put] at h2; omega⟩
  · rintro rfl
    rcases hv with hv | hv
    · exact hv rfl
    · rw [e1] at hv; cases hv
  · by_cases hb : n = b
    · subst hb; exact e2
    · rwa [k.put_ne e2 x hb] at hv
theorem Abs.get_isSome {W : Nat → Prop} {h h' : Hp} (a : Abs W h h') {n : Nat} (hn : n < h.next) (k : (h'.get n).isSome = true) : (h.get n).isSome = true := by
  obtain ⟨k1, k2⟩ := Hp.get_isSome k
  rw [a.hid] at k1
  exact Hp.isSome_get k1 (a.live n hn k2)

/-! ### the abstract heap against the world -/
section
variable (A : Nat → Int)
/-- a name's block against the world -/
def NmR (φ : Phi) (n : Nat) (x : AB) (w : World) : Prop :=
  match x with
  | .arr cs ty => ∃ L c, φ n = some L ∧ w.heap[L.b]? = some (.cells c ty (0, 0)) ∧ c.size = L.lim ∧ L.o + cs.length ≤ L.lim ∧ ∀ i sv, cs[i]? = some sv → ∃ v, c[L.o + i]? = some v ∧ cS A φ sv v
  | .map va es => ∃ L es' clock, φ n = some L ∧ w.heap[L.b]? = some (.map es' clock) ∧ All2 (fun p e => cV1 A φ (kag p.1) p.1 e.key ∧ cV1 A φ va p.2 e.val) es es'.toList
structure Rel (φ : Phi) (h : Hp) (w : World) : Prop where
  wf : WF h
  dom : ∀ n, h.next ≤ n → φ n = none
  blk : ∀ n x, h.get n = some x → NmR A φ n x w
  inj : ∀ n m L M, (h.get n).isSome = true → (h.get m).isSome = true → φ n = some L → φ m = some M → L.b = M.b → n = m
  con : ∀ b cs, φ.k b = some cs → ∃ ty : TypeId × Nat × Nat, w.heap[b]? = some (.cells cs ty.1 ty.2)
  sep : ∀ n L, (h.get n).isSome = true → φ n = some L → φ.k L.b = none
/-- what a step changes, and what it leaves as it was -/
structure Step (W : Nat → Prop) (φ φ' : Phi) (h h' : Hp) (w w' : World) : Prop where
  abs : Abs W h h'
  ext : ∀ n, n < h.next → φ' n = φ n
  kle : ∀ b cs, φ.k b = some cs → φ'.k b = some cs
  knew : ∀ b cs, φ'.k b = some cs → φ.k b = some cs ∨ w.heap.size ≤ b
  os : w'.os = w.os
  tape : w'.tape = w.tape
  output : w'.output = w.output
  size : w.heap.size ≤ w'.heap.size
  old : ∀ b, b < w.heap.size → (∀ n L, W n → (h.get n).isSome = true → φ n = some L → L.b ≠ b) → w'.heap[b]? = w.heap[b]?
  new : ∀ n L, h.next ≤ n → (h'.get n).isSome = true → φ' n = some L → w.heap.size ≤ L.b ∨ ∃ m M, W m ∧ (h.get m).isSome = true ∧ φ m = some M ∧ M.b = L.b
end
section
variable {A : Nat → Int} {φ ψ χ : Phi} {h h' h'' : Hp} {w w' w'' : World} {W V : Nat → Prop}
theorem NmR.mono (hle : φ.le ψ) {n : Nat} {x : AB} (k : NmR A φ n x w) : NmR A ψ n x w := by
  cases x with
  | arr cs ty =>
    obtain ⟨L, c, h1, h3, h4, h5, h6⟩ := k
    exact ⟨L, c, hle.nm _ _ h1, h3, h4, h5, fun i sv hi => let ⟨v, a, b⟩ := h6 i sv hi; ⟨v, a, b.mono hle⟩⟩
  | map va es =>
    obtain ⟨L, es', clock, h1, h3, h4⟩ := k
    exact ⟨L, es', clock, hle.nm _ _ h1, h3, h4.mono (fun p e hp => ⟨hp.1.mono hle, hp.2.mono hle⟩)⟩
theorem NmR.world {n : Nat} {x : AB} (k : NmR A φ n x w) (hw : ∀ L, φ n = some L → w'.heap[L.b]? = w.heap[L.b]?) : NmR A φ n x w' := by
  cases x with
  | arr cs ty =>
    obtain ⟨L, c, h1, h3, h4, h5, h6⟩ := k
    exact ⟨L, c, h1, by rw [hw L h1, h3], h4, h5, h6⟩
  | map va es =>
    obtain ⟨L, es', clock, h1, h3, h4⟩ := k
    exact ⟨L, es', clock, h1, by rw [hw L h1, h3], h4⟩
theorem NmR.some_loc {n : Nat} {x : AB} (k : NmR A φ n x w) : ∃ L, φ n = some L ∧ L.b < w.heap.size := by
  cases x with
  | arr cs ty =>
    obtain ⟨L, c, h1, h3, h4, h5, h6⟩ := k
    exact ⟨L, h1, (Array.getElem?_eq_some_iff.1 h3).1⟩
  | map va es =>
    obtain ⟨L, es', clock, h1, h3, h4⟩ := k
    exact ⟨L, h1, (Array.getElem?_eq_some_iff.1 h3).1⟩
theorem Rel.loc (k : Rel A φ h w) {n : Nat} (e : (h.get n).isSome = true) : ∃ L, φ n = some L ∧ L.b < w.heap.size := by
  cases e' : h.get n with
  | none => rw [e'] at e; cases e
  | some x => exact (k.blk n x e').some_loc
theorem Rel.heap (k : Rel A φ h w) (hw : w'.heap = w.heap) : Rel A φ h w' :=
  ⟨k.wf, k.dom, fun n x hx => (k.blk n x hx).world (fun L _ => by rw [hw]), k.inj, fun b cs e => by rw [hw]; exact k.con b cs e, k.sep⟩
theorem Step.le (s : Step W φ ψ h h' w w') (k : Rel A φ h w) : φ.le ψ := by
  refine ⟨fun n L e => ?_, s.kle⟩
  rcases Nat.lt_or_ge n h.next with h1 | h1
  · rw [s.ext n h1]; exact e
  · rw [k.dom n h1] at e; cases e
/-- blocks that stay, in a world that a step leaves -/
theorem Rel.conLt (k : Rel A φ h w) {b : Nat} {cs : Array Value} (e : φ.k b = some cs) : b < w.heap.size := by
  obtain ⟨ty, h1⟩ := k.con b cs e
  exact (Array.getElem?_eq_some_iff.1 h1).1
theorem Rel.conOld (k : Rel A φ h w) (ho : ∀ b, b < w.heap.size → (∀ n L, W n → (h.get n).isSome = true → φ n = some L → L.b ≠ b) → w'.heap[b]? = w.heap[b]?) {b : Nat} {cs : Array Value} (e : φ.k b = some cs) : ∃ ty : TypeId × Nat × Nat, w'.heap[b]? = some (.cells cs ty.1 ty.2) := by
  obtain ⟨ty, h1⟩ := k.con b cs e
  exact ⟨ty, by rw [ho b (k.conLt e) (fun n L _ h2 h3 h4 => by have := k.sep n L h2 h3; rw [h4, e] at this; cases this)]; exact h1⟩
theorem Step.mono (hw : ∀ n, W n → V n) (s : Step W φ ψ h h' w w') : Step V φ ψ h h' w w' :=
  ⟨s.abs.mono hw, s.ext, s.kle, s.knew, s.os, s.tape, s.output, s.size, fun b hb hv => s.old b hb (fun n L hn => hv n L (hw n hn)),
    fun n L a b c => (s.new n L a b c).imp id (fun ⟨m, M, e, r⟩ => ⟨m, M, hw m e, r⟩)⟩
theorem Step.refl (W : Nat → Prop) (k : Rel A φ h w) (hw : w'.heap = w.heap) (os : w'.os = w.os) (tape : w'.tape = w.tape) (output : w'.output = w.output) : Step W φ φ h h w w' :=
  ⟨Abs.refl W k.wf, fun _ _ => rfl, fun _ _ e => e, fun _ _ e => .inl e, os, tape, output, by rw [hw]; exact Nat.le_refl _, fun b _ _ => by rw [hw],
    fun n L a b c => by rw [k.dom n a] at c; cases c⟩
theorem Step.trans (s : Step W φ ψ h h' w w') (t : Step W ψ χ h' h'' w' w'') : Step W φ χ h h'' w w'' := by
  have nx := s.abs.nx
  refine ⟨s.abs.trans t.abs, fun n hn => (t.ext n (by omega)).trans (s.ext n hn), fun b cs e => t.kle b cs (s.kle b cs e), fun b cs e => (t.knew b cs e).elim (s.knew b cs) (fun h => .inr (Nat.le_trans s.size h)), t.os.trans s.os, t.tape.trans s.tape, t.output.trans s.output, Nat.le_trans s.size t.size, ?_, ?_⟩
  · intro b hb hv
    have h1 := s.old b hb hv
    rw [← h1]
    refine t.old b (Nat.lt_of_lt_of_le hb s.size) ?_
    intro n L hn hl hL
    rcases Nat.lt_or_ge n h.next with h2 | h2
    · exact hv n L hn (s.abs.get_isSome h2 hl) (by rw [← s.ext n h2]; exact hL)
    · rcases s.new n L h2 hl hL with h3 | ⟨m, M, h3, h4, h5, h6⟩
      · omega
      · rw [← h6]; exact hv m M h3 h4 h5
  · intro n L hn hl hL
    rcases Nat.lt_or_ge n h'.next with h2 | h2
    · exact s.new n L hn (t.abs.get_isSome h2 hl) (by rw [← t.ext n h2]; exact hL)
    · rcases t.new n L h2 hl hL with h3 | ⟨m, M, h3, h4, h5, h6⟩
      · exact .inl (Nat.le_trans s.size h3)
      · rcases Nat.lt_or_ge m h.next with h7 | h7
        · exact .inr ⟨m, M, h3, s.abs.get_isSome h7 h4, by rw [← s.ext m h7]; exact h5, h6⟩
        · rcases s.new m M h7 h4 h5 with h8 | ⟨m', M', h8, h9, h10, h11⟩
          · exact .inl (by rw [← h6]; exact h8)
          · exact .inr ⟨m', M', h8, h9, h10, h11.trans h6⟩

/-- a world with one block more -/
structure Grown (w w' : World) (c : Array Value) (ty : TypeId) : Prop where
  os : w'.os = w.os
  tape : w'.tape = w.tape
  output : w'.output = w.output
  size : w'.heap.size = w.heap.size + 1
  old : ∀ b, b < w.heap.size → w'.heap[b]? = w.heap[b]?
  new : w'.heap[w.heap.size]? = some (.cells c ty (0, 0))
theorem Grown.of {w w' : World} {c : Array Value} {ty : TypeId} (os : w'.os = w.os) (tape : w'.tape = w.tape) (output : w'.output = w.output) (hh : w'.heap = w.heap.push (.cells c ty)) : Grown w w' c ty :=
  ⟨os, tape, output, by rw [hh, Array.size_push], fun b hb => by rw [hh, Array.getElem?_push, if_neg (Nat.ne_of_lt hb)], by rw [hh, Array.getElem?_push, if_pos rfl]⟩
theorem Grown.alloc (w : World) (c : Array Value) (ty : TypeId) : Grown w (w.alloc (.cells c ty)) c ty := .of rfl rfl rfl rfl
theorem Grown.drew (w : World) (c : Array Value) (ty : TypeId) : Grown w (w.drew.alloc (.cells c ty)) c ty := .of rfl rfl rfl rfl
/-- a name for a new block -/
def Phi.add (φ : Phi) (n : Nat) (L : Lc) : Phi := ⟨fun m => if m = n then some L else φ m, φ.k, φ.g⟩
theorem Phi.add_same (φ : Phi) (n : Nat) (L : Lc) : φ.add n L n = some L := by simp [Phi.add]
theorem Phi.add_ne (φ : Phi) {n m : Nat} (L : Lc) (k : m ≠ n) : φ.add n L m = φ m := by simp [Phi.add, k]
theorem Rel.le_add (k : Rel A φ h w) (L : Lc) : φ.le (φ.add h.next L) := by
  refine ⟨fun n M e => ?_, fun _ _ e => e⟩
  rw [Phi.add_ne φ L]
  · exact e
  · rintro rfl; rw [k.dom _ (Nat.le_refl _)] at e; cases e
theorem Rel.push (k : Rel A φ h w) (h1 : 0 ≤ h.next) (h2 : inHid h.hid h.next = false) {c : Array Value} {ty : TypeId} (g : Grown w w' c ty) {cs : List SV}
    (hl : cs.length ≤ c.size) (hc : ∀ (i : Nat) sv, cs[i]? = some sv → ∃ v, c[i]? = some v ∧ cS A φ sv v) :
    Step (fun _ => False) φ (φ.add h.next ⟨w.heap.size, 0, c.size⟩) h (h.push (.arr cs ty)) w w' ∧ Rel A (φ.add h.next ⟨w.heap.size, 0, c.size⟩) (h.push (.arr cs ty)) w' := by
  have hle := k.le_add ⟨w.heap.size, 0, c.size⟩
  have hget : ∀ n, n ≠ h.next → (h.push (.arr cs ty)).get n = h.get n := fun n hn => by
    rw [Hp.get_eq, Hp.get_eq, k.wf.push_ne h1 _ hn]; rfl
  have hkn : ∀ b, w.heap.size ≤ b → φ.k b = none := fun b hb => by
    cases e : φ.k b with
    | none => rfl
    | some cs => exact absurd (k.conLt e) (by omega)
  refine ⟨⟨Abs.push _ k.wf h1 h2 _, fun n hn => Phi.add_ne _ _ (by omega), fun _ _ e => e, fun _ _ e => .inl e, g.os, g.tape, g.output, by rw [g.size]; omega, fun b hb _ => g.old b hb, fun n L hn hs hL => ?_⟩, ⟨k.wf.push h1 _, fun n hn => ?_, fun n x hx => ?_, ?_, fun b cs' e => ?_, fun n L hn hL => ?_⟩⟩
  · by_cases e : n = h.next
    · subst e; rw [Phi.add_same] at hL; cases hL; exact .inl (Nat.le_refl _)
    · rw [Phi.add_ne _ _ e, k.dom n hn] at hL; cases hL
  · simp at hn; rw [Phi.add_ne _ _ (by omega)]; exact k.dom n (by omega)
  · by_cases e : n = h.next
    · subst e
      obtain ⟨_, hx⟩ := Hp.get_some hx
      rw [k.wf.push_same h1] at hx
      cases hx
      exact ⟨_, c, Phi.add_same _ _ _, g.new, rfl, by simpa using hl, fun i sv hi => let ⟨v, a, b⟩ := hc i sv hi; ⟨v, by simpa using a, b.mono hle⟩⟩
    · rw [hget n e] at hx
      exact ((k.blk n x hx).mono hle).world (fun L hL => by
        rw [Phi.add_ne _ _ e] at hL
        obtain ⟨L', hL', hb⟩ := (k.blk n x hx).some_loc
        rw [hL] at hL'; cases hL'
        exact g.old _ hb)
  · have key : ∀ n m L M, n = h.next → m ≠ h.next → ((h.push (.arr cs ty)).get m).isSome = true → φ.add h.next ⟨w.heap.size, 0, c.size⟩ n = some L → φ.add h.next ⟨w.heap.size, 0, c.size⟩ m = some M → L.b ≠ M.b := by
      intro n m L M en em hm hL hM
      subst en
      rw [hget m em] at hm
      rw [Phi.add_same] at hL
      rw [Phi.add_ne _ _ em] at hM
      cases hL
      obtain ⟨M', hM', hb⟩ := k.loc hm
      rw [hM] at hM'; cases hM'
      exact fun e => by simp at e; omega
    intro n m L M hn hm hL hM e
    by_cases en : n = h.next
    · by_cases em : m = h.next
      · rw [en, em]
      · exact absurd e (key n m L M en em hm hL hM)
    · by_cases em : m = h.next
      · exact absurd e.symm (key m n M L em en hn hM hL)
      · rw [hget n en] at hn
        rw [hget m em] at hm
        rw [Phi.add_ne _ _ en] at hL
        rw [Phi.add_ne _ _ em] at hM
        exact k.inj n m L M hn hm hL hM e
  · have e' : φ.k b = some cs' := e
    obtain ⟨ty', h3⟩ := k.con b cs' e'
    exact ⟨ty', by rw [g.old b (k.conLt e')]; exact h3⟩
  · show φ.k L.b = none
    by_cases en : n = h.next
    · subst en
      rw [Phi.add_same] at hL
      cases hL
      exact hkn _ (Nat.le_refl _)
    · rw [hget n en] at hn
      rw [Phi.add_ne _ _ en] at hL
      exact k.sep n L hn hL
/-- a world in which one block is otherwise -/
structure Changed (w w' : World) (b : Nat) (c : Array Value) (ty : TypeId) : Prop where
  os : w'.os = w.os
  tape : w'.tape = w.tape
  output : w'.output = w.output
  size : w'.heap.size = w.heap.size
  old : ∀ k, k ≠ b → w'.heap[k]? = w.heap[k]?
  new : w'.heap[b]? = some (.cells c ty (0, 0))
theorem Changed.row {w : World} {b : Nat} {cur : Array Value} {ty : TypeId} (hb : w.heap[b]? = some (.cells cur ty (0, 0))) (c : Array Value) : Changed w (w.setRow b c) b c ty :=
  ⟨rfl, rfl, rfl, by unfold World.setRow; simp, fun k hk => setRow_other w b k c hk, setRow_heap w b cur c ty _ hb⟩
/-- cells laid over a name's cells -/
theorem Rel.put (k : Rel A φ h w) {b off : Nat} {xs : List SV} (hw : wr h b off xs = some h') {vs : List Value} (hv : All2 (cS A φ) xs vs) :
    ∃ L c ty, φ b = some L ∧ (h.get b).isSome = true ∧ w.heap[L.b]? = some (.cells c ty (0, 0)) ∧ L.o + off + vs.length ≤ c.size ∧
      ∀ w', Changed w w' L.b (c.toList.take (L.o + off) ++ vs ++ c.toList.drop (L.o + off + vs.length)).toArray ty → Step (fun n => n = b) φ φ h h' w w' ∧ Rel A φ h' w' := by
  obtain ⟨_, cs, ty, hg, hl, rfl⟩ := wr_some hw
  have hvl := hv.len
  obtain ⟨L, c, h1, h3, h4, h5, h6⟩ := k.blk b _ hg
  have hgs : (h.get b).isSome = true := by rw [hg]; rfl
  obtain ⟨e1, e2⟩ := Hp.get_isSome hgs
  refine ⟨L, c, ty, h1, hgs, h3, by omega, fun w' g => ?_⟩
  have hget : ∀ n, n ≠ b → (h.put b (some (.arr (cs.take off ++ (xs ++ cs.drop (off + xs.length))) ty))).get n = h.get n := fun n hn => by
    rw [Hp.get_eq, Hp.get_eq, k.wf.put_ne e2 _ hn, Hp.hid_put]
  have hsame : ∀ n, ((h.put b (some (.arr (cs.take off ++ (xs ++ cs.drop (off + xs.length))) ty))).get n).isSome = true → (h.get n).isSome = true := fun n hn => by
    by_cases e : n = b
    · subst e; exact hgs
    · rwa [hget n e] at hn
  refine ⟨⟨Abs.put k.wf hgs _, fun _ _ => rfl, fun _ _ e => e, fun _ _ e => .inl e, g.os, g.tape, g.output, by rw [g.size]; exact Nat.le_refl _, fun p hp hv => ?_, fun n L a b c => by rw [k.dom n a] at c; cases c⟩, ⟨k.wf.put e2 _, by simpa using k.dom, fun n x hx => ?_, fun n m L M hn hm => k.inj n m L M (hsame n hn) (hsame m hm), fun p cs' e => ?_, fun n M hn hM => k.sep n M (hsame n hn) hM⟩⟩
  · exact g.old p (fun e => hv b L rfl hgs h1 e.symm)
  · by_cases e : n = b
    · subst e
      obtain ⟨_, hx⟩ := Hp.get_some hx
      rw [k.wf.put_same e2] at hx
      cases hx
      refine ⟨L, _, h1, g.new, by simp; omega, by simp; omega, fun i sv hi => ?_⟩
      rw [List.getElem?_append] at hi
      split at hi
      · rename_i hlt
        rw [List.length_take] at hlt
        rw [List.getElem?_take_of_lt (by omega)] at hi
        obtain ⟨v, a, b⟩ := h6 i sv hi
        refine ⟨v, ?_, b⟩
        rw [← a]
        simp only [List.getElem?_toArray, List.append_assoc]
        rw [List.getElem?_append_left (by simp; omega), List.getElem?_take_of_lt (by omega)]
        simp
      · rename_i hge
        rw [List.length_take] at hge hi
        rw [List.getElem?_append] at hi
        split at hi
        · rename_i hlt
          obtain ⟨v, a, b⟩ := hv.get _ _ hi
          refine ⟨v, ?_, b⟩
          rw [← a]
          simp only [List.getElem?_toArray, List.append_assoc]
          rw [List.getElem?_append_right (by simp; omega), List.getElem?_append_left (by simp; omega)]
          congr 1
          simp
          omega
        · rename_i hge2
          rw [List.getElem?_drop] at hi
          obtain ⟨v, a, b⟩ := h6 i sv (by rw [← hi]; congr 1; omega)
          refine ⟨v, ?_, b⟩
          rw [← a]
          simp only [List.getElem?_toArray, List.append_assoc]
          rw [List.getElem?_append_right (by simp; omega), List.getElem?_append_right (by simp; omega), List.getElem?_drop]
          simp only [List.length_take, Array.length_toList]
          rw [Array.getElem?_toList]
          congr 1
          omega
    · rw [hget n e] at hx
      refine (k.blk n x hx).world (fun M hM => g.old _ (fun e' => e ?_))
      exact k.inj n b M L (by rw [hx]; rfl) hgs hM h1 e'
  · obtain ⟨ty', h7⟩ := k.con p cs' e
    exact ⟨ty', by rw [g.old p (fun e' => by have := k.sep b L hgs h1; rw [← e', e] at this; cases this)]; exact h7⟩
/-- an append that may be in place: the old name goes, a new one for the same block, of which the cells behind it are otherwise -/
theorem Rel.app (k : Rel A φ h w) {b : Nat} {x : AB} (hg : h.get b = some x) {L : Lc} {c c' : Array Value} {ty : TypeId} (hL : φ b = some L) (hlim : c.size = L.lim)
    (h1 : 0 ≤ h.next) (h2 : inHid h.hid h.next = false) (g : Changed w w' L.b c' ty) (hs : c'.size = c.size) (o : Nat) {cs : List SV} (hl : o + cs.length ≤ c.size)
    (hc : ∀ (i : Nat) sv, cs[i]? = some sv → ∃ v, c'[o + i]? = some v ∧ cS A φ sv v) :
    Step (fun n => n = b) φ (φ.add h.next ⟨L.b, o, L.lim⟩) h ((h.put b none).push (.arr cs ty)) w w' ∧ Rel A (φ.add h.next ⟨L.b, o, L.lim⟩) ((h.put b none).push (.arr cs ty)) w' := by
  have hle := k.le_add ⟨L.b, o, L.lim⟩
  have hgs : (h.get b).isSome = true := by rw [hg]; rfl
  obtain ⟨e1, e2⟩ := Hp.get_isSome hgs
  have hbn : b ≠ h.next := by have := k.wf.lt e2; omega
  have wf1 : WF (h.put b none) := k.wf.put e2 _
  have h1' : 0 ≤ (h.put b none).next := Nat.zero_le _
  have hget : ∀ n, n ≠ h.next → n ≠ b → ((h.put b none).push (.arr cs ty)).get n = h.get n := fun n hn hb => by
    rw [Hp.get_eq, Hp.get_eq, wf1.push_ne h1' _ (by simpa using hn), k.wf.put_ne e2 _ hb]; simp
  have hgb : ((h.put b none).push (.arr cs ty)).get b = none := by
    rw [Hp.get_eq, wf1.push_ne h1' _ (by simpa using hbn), k.wf.put_same e2]; split <;> rfl
  have hother : ∀ n, n ≠ h.next → (((h.put b none).push (.arr cs ty)).get n).isSome = true → n ≠ b ∧ (h.get n).isSome = true := fun n hn hs => by
    by_cases e : n = b
    · subst e; rw [hgb] at hs; cases hs
    · rw [hget n hn e] at hs; exact ⟨e, hs⟩
  refine ⟨⟨(Abs.put k.wf hgs none).trans ((Abs.push _ wf1 h1' (by simpa using h2) _)), fun n hn => Phi.add_ne _ _ (by omega), fun _ _ e => e, fun _ _ e => .inl e, g.os, g.tape, g.output, by rw [g.size]; exact Nat.le_refl _, fun p hp hv => g.old p (fun e => hv b L rfl hgs hL e.symm), fun n M hn hs hM => ?_⟩, ⟨wf1.push h1' _, fun n hn => ?_, fun n y hy => ?_, ?_, fun p cs' e => ?_, fun n M hn hM => ?_⟩⟩
  · by_cases e : n = h.next
    · subst e; rw [Phi.add_same] at hM; cases hM; exact .inr ⟨b, L, rfl, hgs, hL, rfl⟩
    · rw [Phi.add_ne _ _ e, k.dom n hn] at hM; cases hM
  · simp at hn; rw [Phi.add_ne _ _ (by omega)]; exact k.dom n (by omega)
  · by_cases e : n = h.next
    · subst e
      obtain ⟨_, hy⟩ := Hp.get_some hy
      have e3 : ((h.put b none).push (.arr cs ty)).tr.get h.next = some (.arr cs ty) := by
        have := wf1.push_same h1' (.arr cs ty)
        rwa [Hp.next_put] at this
      rw [e3] at hy
      cases hy
      exact ⟨_, c', Phi.add_same _ _ _, g.new, by simp [hs, hlim], by simp; omega, fun i sv hi => let ⟨v, a, b⟩ := hc i sv hi; ⟨v, by simpa using a, b.mono hle⟩⟩
    · obtain ⟨hb, hs'⟩ := hother n e (by rw [hy]; rfl)
      rw [hget n e hb] at hy
      refine ((k.blk n y hy).mono hle).world (fun M hM => g.old _ (fun e' => hb ?_))
      rw [Phi.add_ne _ _ e] at hM
      exact k.inj n b M L hs' hgs hM hL e'
  · have key : ∀ n m M N, n = h.next → m ≠ h.next → (((h.put b none).push (.arr cs ty)).get m).isSome = true → φ.add h.next ⟨L.b, o, L.lim⟩ n = some M → φ.add h.next ⟨L.b, o, L.lim⟩ m = some N → M.b ≠ N.b := by
      intro n m M N en em hm hM hN
      subst en
      obtain ⟨hb, hm'⟩ := hother m em hm
      rw [Phi.add_same] at hM
      rw [Phi.add_ne _ _ em] at hN
      cases hM
      exact fun e => hb (k.inj m b N L hm' hgs hN hL e.symm)
    intro n m M N hn hm hM hN e
    by_cases en : n = h.next
    · by_cases em : m = h.next
      · rw [en, em]
      · exact absurd e (key n m M N en em hm hM hN)
    · by_cases em : m = h.next
      · exact absurd e.symm (key m n N M em en hn hN hM)
      · obtain ⟨_, hn'⟩ := hother n en hn
        obtain ⟨_, hm'⟩ := hother m em hm
        rw [Phi.add_ne _ _ en] at hM
        rw [Phi.add_ne _ _ em] at hN
        exact k.inj n m M N hn' hm' hM hN e
  · have e' : φ.k p = some cs' := e
    obtain ⟨ty', h7⟩ := k.con p cs' e'
    exact ⟨ty', by rw [g.old p (fun e'' => by have := k.sep b L hgs hL; rw [← e'', e'] at this; cases this)]; exact h7⟩
  · show φ.k M.b = none
    by_cases en : n = h.next
    · subst en
      rw [Phi.add_same] at hM
      cases hM
      exact k.sep b L hgs hL
    · rw [Phi.add_ne _ _ en] at hM
      exact k.sep n M (hother n en hn).2 hM
/-- a name goes -/
theorem Rel.kill (k : Rel A φ h w) {b : Nat} (hgs : (h.get b).isSome = true) : Step (fun n => n = b) φ φ h (h.put b none) w w ∧ Rel A φ (h.put b none) w := by
  obtain ⟨e1, e2⟩ := Hp.get_isSome hgs
  have hget : ∀ n, n ≠ b → (h.put b none).get n = h.get n := fun n hn => by
    rw [Hp.get_eq, Hp.get_eq, k.wf.put_ne e2 _ hn, Hp.hid_put]
  have hgb : (h.put b none).get b = none := by
    rw [Hp.get_eq, k.wf.put_same e2]; split <;> rfl
  have hother : ∀ n, ((h.put b none).get n).isSome = true → n ≠ b ∧ (h.get n).isSome = true := fun n hs => by
    by_cases e : n = b
    · subst e; rw [hgb] at hs; cases hs
    · rw [hget n e] at hs; exact ⟨e, hs⟩
  refine ⟨⟨Abs.put k.wf hgs none, fun _ _ => rfl, fun _ _ e => e, fun _ _ e => .inl e, rfl, rfl, rfl, Nat.le_refl _, fun _ _ _ => rfl, fun n L a _ c => by rw [k.dom n a] at c; cases c⟩, ⟨k.wf.put e2 _, by simpa using k.dom, fun n y hy => ?_, fun n m L M hn hm => k.inj n m L M (hother n hn).2 (hother m hm).2, k.con, fun n L hn hL => k.sep n L (hother n hn).2 hL⟩⟩
  obtain ⟨hb, _⟩ := hother n (by rw [hy]; rfl)
  rw [hget n hb] at hy
  exact k.blk n y hy
/-- a block that stays from now on -/
def Phi.cst (φ : Phi) (b : Nat) (c : Array Value) : Phi := ⟨φ.m, fun p => (φ.k p).or (if p = b then some c else none), φ.g.mono (fun p cs e => by rw [e]; rfl)⟩
theorem Phi.cst_same (φ : Phi) (b : Nat) (c : Array Value) (h : φ.k b = none) : (φ.cst b c).k b = some c := by simp [Phi.cst, h]
theorem Rel.cst (k : Rel A φ h w) {c : Array Value} {ty : TypeId} (g : Grown w w' c ty) : Step W φ (φ.cst w.heap.size c) h h w w' ∧ Rel A (φ.cst w.heap.size c) h w' := by
  have hkn : φ.k w.heap.size = none := by
    cases e : φ.k w.heap.size with
    | none => rfl
    | some cs => exact absurd (k.conLt e) (by omega)
  have hk : ∀ b cs, φ.k b = some cs → (φ.cst w.heap.size c).k b = some cs := fun b cs e => by
    show (φ.k b).or (if b = w.heap.size then some c else none) = some cs
    rw [e]; rfl
  have hle : φ.le (φ.cst w.heap.size c) := ⟨fun _ _ e => e, hk⟩
  refine ⟨⟨Abs.refl W k.wf, fun _ _ => rfl, hk, fun b cs e => ?_, g.os, g.tape, g.output, by rw [g.size]; omega, fun b hb _ => g.old b hb, fun n L hn _ hL => by rw [show (φ.cst w.heap.size c) n = φ n from rfl, k.dom n hn] at hL; cases hL⟩, ⟨k.wf, k.dom, fun n x hx => ?_, k.inj, fun b cs e => ?_, fun n L hn hL => ?_⟩⟩
  · have e' : (φ.k b).or (if b = w.heap.size then some c else none) = some cs := e
    cases hq : φ.k b with
    | some x => rw [hq] at e'; exact .inl e'
    | none =>
      rw [hq, Option.none_or] at e'
      split at e'
      · rename_i h1; exact .inr (by omega)
      · cases e'
  · refine ((k.blk n x hx).mono hle).world (fun L hL => g.old _ ?_)
    obtain ⟨L', hL', hb⟩ := (k.blk n x hx).some_loc
    rw [show (φ.cst w.heap.size c) n = φ n from rfl, hL'] at hL
    cases hL
    exact hb
  · have e' : (φ.k b).or (if b = w.heap.size then some c else none) = some cs := e
    cases hq : φ.k b with
    | some x =>
      rw [hq] at e'
      cases e'
      obtain ⟨ty', h3⟩ := k.con b cs hq
      exact ⟨ty', by rw [g.old b (k.conLt hq)]; exact h3⟩
    | none =>
      rw [hq, Option.none_or] at e'
      split at e'
      · rename_i h1
        cases e'
        exact ⟨(ty, 0, 0), by rw [h1]; exact g.new⟩
      · cases e'
  · obtain ⟨L', hL', hb⟩ := k.loc hn
    have e : L' = L := Option.some.inj (hL'.symm.trans hL)
    subst e
    show (φ.k L'.b).or (if L'.b = w.heap.size then some c else none) = none
    rw [if_neg (by omega), Option.or_none]
    exact k.sep n L' hn hL'
end
end Go.Proofs.YtmaaalpegnhjcaaDoor.Ev
