/- The table of types looked at by the kernel; calls of 'picked' that are answered at once. No program in sight. -/
import Derived.Test.YtmaaalpegnhjcaaDoorRun
namespace Go.Proofs.YtmaaalpegnhjcaaDoor.Ev
open Go Go.RowKit
set_option linter.unusedVariables false
def svB : SV → Value → Bool
  | .bool b, .bool c => b == c
  | .int k n, .int k' m => Nat.beq k.ctorIdx k'.ctorIdx && (n == m)
  | .nilPtr, .pointer none => true
  | .nilSlice, .slice none 0 0 => true
  | .nilFunc, .nilFunc => true
  | .ifc false, .nilIface => true
  | .nilMap, .map none => true
  | .str l, .string b => l == b.data.toList
  | _, _ => false
theorem kind_inj {k k' : IntKind} (h : Nat.beq k.ctorIdx k'.ctorIdx = true) : k = k' := by
  cases k <;> cases k' <;> first | rfl | exact absurd h (by decide)
theorem svB_sound {s : SV} {v : Value} (h : svB s v = true) (A : Nat → Int) (φ : Phi) : cS A φ s v := by
  unfold svB at h
  split at h
  · rename_i b c; rw [beq_iff_eq] at h; subst h; rfl
  · rename_i k n k' m
    rw [Bool.and_eq_true, beq_iff_eq] at h
    obtain ⟨h1, rfl⟩ := h
    obtain rfl := kind_inj h1
    rfl
  all_goals first | rfl | exact .inr ⟨rfl, rfl⟩ | (cases h; done) | skip
  rename_i l b
  rw [beq_iff_eq] at h
  subst h
  rfl
def allB : List SV → List Value → Bool
  | [], [] => true
  | s :: l, v :: r => svB s v && allB l r
  | _, _ => false
theorem allB_sound : ∀ {l : List SV} {r : List Value}, allB l r = true → ∀ A φ, All2 (cS A φ) l r
  | [], [], _, _, _ => .nil
  | s :: l, v :: r, h, A, φ => by
    simp only [allB, Bool.and_eq_true] at h
    exact .cons (svB_sound h.1 A φ) (allB_sound h.2 A φ)
  | [], _ :: _, h, _, _ => by cases h
  | _ :: _, [], h, _, _ => by cases h
def fieldsB (P : Program) : List (Nat × TypeId) → List Field → Bool
  | [], [] => true
  | (o, t) :: l, f :: r => Nat.beq o f.offset && (Nat.beq t f.type && ((P.info? f.type).isSome && fieldsB P l r))
  | _, _ => false
theorem fieldsB_sound {P : Program} : ∀ {l : List (Nat × TypeId)} {r : List Field}, fieldsB P l r = true → l = r.map (fun f => (f.offset, f.type)) ∧ ∀ f ∈ r, ∃ i, P.info? f.type = some i
  | [], [], _ => ⟨rfl, fun f h => by simp at h⟩
  | (o, t) :: l, f :: r, h => by
    simp only [fieldsB, Bool.and_eq_true] at h
    obtain ⟨h1, h2, h3, h4⟩ := h
    obtain ⟨h5, h6⟩ := fieldsB_sound h4
    refine ⟨by rw [Nat.eq_of_beq_eq_true h1, Nat.eq_of_beq_eq_true h2, h5]; rfl, fun g hg => ?_⟩
    rcases List.mem_cons.1 hg with rfl | hg
    · exact Option.isSome_iff_exists.1 h3
    · exact h6 g hg
  | [], _ :: _, h => by cases h
  | _ :: _, [], h => by cases h
def kindB (P : Program) : TypeDesc → TK → Bool
  | .int k, .int k' => Nat.beq k.ctorIdx k'.ctorIdx
  | .bool, .bool => true
  | .slice e, .slice e' => Nat.beq e e'
  | .array n e, .array n' e' => Nat.beq n n' && Nat.beq e e'
  | .struct fs, .struct l => fieldsB P l fs.toList
  | .map k e, .map k' e' => Nat.beq k k' && Nat.beq e e'
  | .pointer e, .ptr e' => Nat.beq e e'
  | .string, .str => true
  | .interface _, .ifc => true
  | _, .other => true
  | _, _ => false
theorem kindB_sound {P : Program} {d : TypeDesc} {k : TK} (h : kindB P d k = true) : kindOk P d k := by
  unfold kindB at h
  split at h
  · exact congrArg _ (kind_inj h)
  · rfl
  · exact congrArg _ (Nat.eq_of_beq_eq_true h)
  · rw [Bool.and_eq_true] at h
    obtain ⟨h1, h2⟩ := h
    obtain rfl := Nat.eq_of_beq_eq_true h1
    obtain rfl := Nat.eq_of_beq_eq_true h2
    rfl
  · rename_i fs l
    obtain ⟨h1, h2⟩ := fieldsB_sound h
    exact ⟨fs, rfl, h1, h2⟩
  · rw [Bool.and_eq_true] at h
    obtain ⟨h1, h2⟩ := h
    obtain rfl := Nat.eq_of_beq_eq_true h1
    obtain rfl := Nat.eq_of_beq_eq_true h2
    rfl
  · exact congrArg _ (Nat.eq_of_beq_eq_true h)
  · rfl
  · exact ⟨_, rfl⟩
  · trivial
  · cases h
def boolsB : List Bool → List Bool → Bool
  | [], [] => true
  | a :: l, b :: r => (a == b) && boolsB l r
  | _, _ => false
theorem boolsB_sound : ∀ {l r : List Bool}, boolsB l r = true → l = r
  | [], [], _ => rfl
  | a :: l, b :: r, h => by
    simp only [boolsB, Bool.and_eq_true, beq_iff_eq] at h
    rw [h.1, boolsB_sound h.2]
  | [], _ :: _, h => by cases h
  | _ :: _, [], h => by cases h
def eqB (P : Program) (t : TypeId) : Option (List Bool) → Bool
  | none => true
  | some s => (match eqSig P 10000 t with | some s' => boolsB s s' | none => false) && !P.eqGuardType P.depth t
def tyB (P : Program) (t : TypeId) (ti : TI) : Bool :=
  match P.info? t with
  | none => false
  | some i => match i.zero with
    | none => false
    | some z => match P.underlying t with
      | none => false
      | some d => Nat.beq i.size ti.size && (Nat.beq i.bytes ti.bytes && (allB ti.zero z.cells.toList && ((ti.agg == aggB d) && (kindB P d ti.kind && (Nat.beq ti.zero.length ti.size && (eqB P t ti.eq && (isAggV z == ti.agg)))))))
theorem tyB_sound {P : Program} {t : TypeId} {ti : TI} (h : tyB P t ti = true) : TIok P t ti := by
  unfold tyB at h
  split at h
  · cases h
  rename_i i hi
  split at h
  · cases h
  rename_i z hz
  split at h
  · cases h
  rename_i d hd
  simp only [Bool.and_eq_true, beq_iff_eq] at h
  obtain ⟨h1, h2, h3, h4, h5, h6, h7, h10⟩ := h
  have hsh : ∀ i' z', P.info? t = some i' → i'.zero = some z' → isAggV z' = ti.agg := by
    intro i' z' hi' hz'
    obtain rfl := Option.some.inj (hi.symm.trans hi')
    obtain rfl := Option.some.inj (hz.symm.trans hz')
    exact h10
  refine ⟨⟨i, z, d, hi, hz, Nat.eq_of_beq_eq_true h1, Nat.eq_of_beq_eq_true h2, allB_sound h3, hd, h4, kindB_sound h5, Nat.eq_of_beq_eq_true h6⟩, fun sig hs => ?_, hsh⟩
  rw [hs] at h7
  simp only [eqB, Bool.and_eq_true, Bool.not_eq_true'] at h7
  obtain ⟨h8, h9⟩ := h7
  split at h8
  · rename_i s' hs'
    rw [boolsB_sound h8]
    exact ⟨hs', h9⟩
  · cases h8
/-- a test of all that a tree has -/
def trAll {α : Type} (f : Nat → α → Bool) : Tr α → Nat → Nat → Bool
  | .leaf, _, _ => true
  | .node l v r, a, p => trAll f l a (2 * p) && ((match v with | some x => f (a + p) x | none => true) && trAll f r (a + p) (2 * p))
theorem trAll_sound {α : Type} {f : Nat → α → Bool} : ∀ (t : Tr α) (a p k : Nat) (x : α), trAll f t a p = true → t.get k = some x → f (a + p * k) x = true
  | .leaf, a, p, k, x, _, h => by rw [tr_get_leaf] at h; cases h
  | .node l v r, a, p, k, x, h, hx => by
    simp only [trAll, Bool.and_eq_true] at h
    obtain ⟨h1, h2, h3⟩ := h
    rw [tr_get_node] at hx
    split at hx
    · rename_i hk
      subst hk
      rw [hx] at h2
      rw [Nat.mul_one]
      exact h2
    · split at hx
      · rename_i hk
        have := trAll_sound r (a + p) (2 * p) (k / 2) x h3 hx
        have e : a + p + 2 * p * (k / 2) = a + p * k := by
          have h4 : k = 2 * (k / 2) + 1 := by omega
          have h5 : p * k = p * (2 * (k / 2)) + p := by rw [← Nat.mul_succ]; congr 1
          rw [h5, ← Nat.mul_assoc, Nat.mul_comm p 2]
          omega
        rw [e] at this
        exact this
      · rename_i hk
        have := trAll_sound l a (2 * p) (k / 2) x h1 hx
        have e : a + 2 * p * (k / 2) = a + p * k := by
          have h4 : k = 2 * (k / 2) := by omega
          have h5 : p * k = p * (2 * (k / 2)) := by rw [← h4]
          rw [h5, ← Nat.mul_assoc, Nat.mul_comm p 2]
        rw [e] at this
        exact this
def tysB (P : Program) (T : Tr TI) : Bool := trAll (fun k ti => tyB P (k - 1) ti) T 0 1
theorem tysB_sound {P : Program} {T : Tr TI} (h : tysB P T = true) : Tys P T := by
  intro t ti ht
  have := trAll_sound T 0 1 (t + 1) ti h ht
  rw [Nat.zero_add, Nat.one_mul] at this
  exact tyB_sound this
/-! ### calls that are answered at once -/
noncomputable def ofSx (e : Sx) : SV := Sx.casesOn (motive := fun _ => SV) e (fun i => .sym (.arg i)) (fun n => .int .i64 n) (fun o a b => .sym (.op o a b)) (fun i m => .sym (.bnd i m))
theorem ofSx_cS (A : Nat → Int) (φ : Phi) (e : Sx) : cS A φ (ofSx e) (.int .i64 (den A e)) := by cases e <;> rfl
noncomputable def lk (l : List ((Nat × Int) × Sx)) (j : Nat) (n : Int) : Option AV :=
  List.rec (motive := fun _ => Option AV) none (fun p _ ih => oif (Nat.beq p.1.1 j) (oif (ieq p.1.2 n) (some (.s (ofSx p.2))) ih) ih) l
theorem lk_some {j : Nat} {n : Int} {v : AV} : ∀ {l : List ((Nat × Int) × Sx)}, lk l j n = some v → ∃ r, ((j, n), r) ∈ l ∧ v = .s (ofSx r)
  | [], h => by cases h
  | p :: l, h => by
    have h' : oif (Nat.beq p.1.1 j) (oif (ieq p.1.2 n) (some (.s (ofSx p.2))) (lk l j n)) (lk l j n) = some v := h
    have rest : lk l j n = some v → ∃ r, ((j, n), r) ∈ p :: l ∧ v = .s (ofSx r) := fun h => by
      obtain ⟨r, h1, h2⟩ := lk_some h
      exact ⟨r, by simp [h1], h2⟩
    rw [oif_if, oif_if] at h'
    split at h'
    · rename_i h1
      split at h'
      · rename_i h2
        rw [nbeq] at h1
        rw [ieq_iff, decide_eq_true_eq] at h2
        refine ⟨p.2, ?_, (Option.some.inj h').symm⟩
        obtain ⟨⟨a, b⟩, c⟩ := p
        simp only at h1 h2
        subst h1 h2
        simp
      · exact rest h'
    · exact rest h'
/-- 'picked' of an argument that is not known, answered by a list -/
noncomputable def picks (pk : FuncId) (ps : List ((Nat × Int) × Sx)) (f : FuncId) (vs : List AV) : Option AV :=
  oif (Nat.beq f pk) (List.casesOn (motive := fun _ => Option AV) vs none (fun a r => List.casesOn (motive := fun _ => Option AV) r none (fun b r => List.casesOn (motive := fun _ => Option AV) r
    (svc none a (fun s => SV.casesOn (motive_1 := fun _ => Option AV) s (fun _ => none) (fun _ _ => none) (fun e => Sx.casesOn (motive := fun _ => Option AV) e (fun i => inat b (fun m => lk ps i (.ofNat m))) (fun _ => none) (fun _ _ _ => none) (fun _ _ => none)) (fun _ _ => none) none (fun _ _ _ _ _ _ => none) none (fun _ _ => none) none none (fun _ => none) (fun _ => none) (fun _ => none) (fun _ => none) none (fun _ => none)))
    (fun _ _ => none)))) none
theorem picks_some {pk : FuncId} {ps : List ((Nat × Int) × Sx)} {f : FuncId} {vs : List AV} {v : AV} (h : picks pk ps f vs = some v) :
    f = pk ∧ ∃ (i m : Nat) (r : Sx), vs = [.s (.sym (.arg i)), .s (.int .i64 (m : Int))] ∧ ((i, (m : Int)), r) ∈ ps ∧ v = .s (ofSx r) := by
  obtain ⟨h1, h2⟩ := oif_some.1 h
  rw [nbeq] at h1
  refine ⟨h1, ?_⟩
  match vs, h2 with
  | [a, b], h2 =>
    obtain ⟨s, rfl, h3⟩ := svcN_some (show svc none a (fun s => SV.casesOn (motive_1 := fun _ => Option AV) s (fun _ => none) (fun _ _ => none) (fun e => Sx.casesOn (motive := fun _ => Option AV) e (fun i => inat b (fun m => lk ps i (.ofNat m))) (fun _ => none) (fun _ _ _ => none) (fun _ _ => none)) (fun _ _ => none) none (fun _ _ _ _ _ _ => none) none (fun _ _ => none) none none (fun _ => none) (fun _ => none) (fun _ => none) (fun _ => none) none (fun _ => none)) = some v from h2)
    cases s with
    | sym e =>
      cases e with
      | arg i =>
        obtain ⟨m, rfl, h4⟩ := inat_some (show inat b (fun m => lk ps i (.ofNat m)) = some v from h3)
        obtain ⟨r, h5, h6⟩ := lk_some h4
        exact ⟨i, m, r, rfl, h5, h6⟩
      | _ => cases h3
    | _ => cases h3
  | [], h2 => cases h2
  | [_], h2 => cases h2
  | _ :: _ :: _ :: _, h2 => cases h2
end Go.Proofs.YtmaaalpegnhjcaaDoor.Ev
