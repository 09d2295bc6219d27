/- Rounds from a slice's end on, in which the interpreter runs the body: what they do. No program in sight. -/
import Derived.Test.YtmaaalpegnhjcaaDoorBack
namespace Go.Proofs.YtmaaalpegnhjcaaDoor.Ev
open Go Go.RowKit
set_option linter.unusedVariables false
set_option linter.unusedSimpArgs false
noncomputable def intV (v : SV) : Option (IntKind × Int) := SV.casesOn (motive_1 := fun _ => Option (IntKind × Int)) v (fun _ => none) (fun k n => some (k, n)) (fun _ => none) (fun _ _ => none) none (fun _ _ _ _ _ _ => none) none (fun _ _ => none) none none (fun _ => none) (fun _ => none) (fun _ => none) (fun _ => none) none (fun _ => none)
/-- two known numbers, the same? -/
noncomputable def sameI (a b : SV) : Bool := Option.rec (motive := fun _ => Bool) false (fun p => Option.rec (motive := fun _ => Bool) false (fun q => oif (Nat.beq (ikn p.1) (ikn q.1)) (ieq p.2 q.2) false) (intV b)) (intV a)
noncomputable def allI (l : List SV) : List SV → Bool :=
  List.rec (motive := fun _ => List SV → Bool) (fun r => List.casesOn (motive := fun _ => Bool) r true (fun _ _ => false)) (fun a _ ih r => List.casesOn (motive := fun _ => Bool) r false (fun b r => oif (sameI a b) (ih r) false)) l
def realI : SV → Value
  | .int k n => .int k n
  | _ => undef
theorem sameI_some {a b : SV} (h : sameI a b = true) : a = b ∧ ∃ k n, a = .int k n := by
  cases a with
  | int k m =>
    cases b with
    | int k' n =>
      have h' : oif (Nat.beq (ikn k) (ikn k')) (ieq m n) false = true := h
      rw [oif_if] at h'
      split at h'
      · rename_i h1
        obtain rfl := ikn_inj h1
        rw [ieq_iff, decide_eq_true_eq] at h'
        subst h'
        exact ⟨rfl, _, _, rfl⟩
      · cases h'
    | _ => cases h
  | _ => cases h
theorem allI_some : ∀ {l r : List SV}, allI l r = true → l = r ∧ ∀ (A : Nat → Int) (φ : Phi) (vs : List Value), All2 (cS A φ) l vs → vs = l.map realI
  | [], [], _ => ⟨rfl, fun A φ vs ha => by cases ha; rfl⟩
  | [], _ :: _, h => by cases h
  | _ :: _, [], h => by cases h
  | a :: l, b :: r, h => by
    have h' : oif (sameI a b) (allI l r) false = true := h
    rw [oif_if] at h'
    split at h'
    · rename_i h1
      obtain ⟨rfl, k, n, rfl⟩ := sameI_some h1
      obtain ⟨rfl, h2⟩ := allI_some h'
      refine ⟨rfl, fun A φ vs ha => ?_⟩
      cases ha with
      | cons hx hr =>
        cases (show _ = Value.int k n from hx)
        rw [h2 A φ _ hr]
        rfl
    · cases h'
/-- is this the slice b off len, of one-cell elements? -/
noncomputable def isSl (b off len : Nat) (c : List SV) : Bool :=
  List.casesOn (motive := fun _ => Bool) c false (fun v r => List.casesOn (motive := fun _ => Bool) r
    (SV.casesOn (motive_1 := fun _ => Bool) v (fun _ => false) (fun _ _ => false) (fun _ => false) (fun _ _ => false) false (fun b' o n _ _ z => oif (Nat.beq b b') (oif (Nat.beq off o) (oif (Nat.beq len n) (Nat.beq z 1) false) false) false) false (fun _ _ => false) false false (fun _ => false) (fun _ => false) (fun _ => false) (fun _ => false) false (fun _ => false))
    (fun _ _ => false))
theorem isSl_some {b off len : Nat} {c : List SV} (h : isSl b off len c = true) : ∃ mc ex, c = [.slice b off len mc ex 1] := by
  match c, h with
  | [v], h =>
    cases v with
    | slice b' o n mc ex z =>
      have h' : oif (Nat.beq b b') (oif (Nat.beq off o) (oif (Nat.beq len n) (Nat.beq z 1) false) false) false = true := h
      simp only [oif_if] at h'
      split at h'
      · rename_i h1
        split at h'
        · rename_i h2
          split at h'
          · rename_i h3
            rw [nbeq] at h1 h2 h3 h'
            subst h1 h2 h3 h'
            exact ⟨mc, ex, rfl⟩
          · cases h'
        · cases h'
      · cases h'
    | _ => cases h
  | [], h => cases h
  | _ :: _ :: _, h => cases h
section
variable (F : Fns) (fuel : Nat)
/-- is this a list that stays, of these elements? -/
noncomputable def isLs (es : List SV) (c : List SV) : Bool :=
  List.casesOn (motive := fun _ => Bool) c false (fun v r => List.casesOn (motive := fun _ => Bool) r
    (SV.casesOn (motive_1 := fun _ => Bool) v (fun _ => false) (fun _ _ => false) (fun _ => false) (fun _ _ => false) false (fun _ _ _ _ _ _ => false) false (fun _ _ => false) false false (fun _ => false) (fun _ => false)
      (fun rows => Option.rec (motive := fun _ => Bool) false (fun l => allI l es) (flat 1 rows)) (fun _ => false) false (fun _ => false))
    (fun _ _ => false))
/-- are the slice's header and its elements as they were? -/
noncomputable def asIs (h : Hp) (bs off b o N : Nat) (es : List SV) : Bool :=
  Option.rec (motive := fun _ => Bool) false (fun c => oif (isSl b o N c) (Option.rec (motive := fun _ => Bool) false (fun c => allI c es) (rd h b o N)) (oif (Nat.beq (llen es) N) (isLs es c) false)) (rd h bs off 1)
/-- the rounds that are left, from the end on -/
noncomputable def rounds (body : IC) (fr : List AV) (d bs off b o N : Nat) (es : List SV) (k : Nat) : Hp → Option Hp :=
  Nat.rec (motive := fun _ => Hp → Option Hp) (fun h => some h) (fun j ih h => ob (lget es j) (fun e => ob (run F fuel body (.mk (lset fr d (.s e)) h)) (fun p =>
    Ex.casesOn (motive := fun _ => Option Hp) p.1 (St.casesOn (motive := fun _ => Option Hp) p.2 (fun _ h' => oif (asIs h' bs off b o N es) (ih h') none)) (fun _ => none) none))) k
end
theorem isLs_some {es c : List SV} (h : isLs es c = true) : ∃ rows, c = [.lst rows] ∧ flat 1 rows = some es ∧ allI es es = true := by
  match c, h with
  | [v], h =>
    cases v with
    | lst rows =>
      have h' : Option.rec (motive := fun _ => Bool) false (fun l => allI l es) (flat 1 rows) = true := h
      cases hf : flat 1 rows with
      | none => rw [hf] at h'; cases h'
      | some l =>
        rw [hf] at h'
        obtain ⟨rfl, _⟩ := allI_some (show allI l es = true from h')
        exact ⟨rows, rfl, hf, h'⟩
    | _ => cases h
  | [], h => cases h
  | _ :: _ :: _, h => cases h
theorem allI_all : ∀ {l r : List SV}, allI l r = true → ∀ (A : Nat → Int) (φ : Phi), All2 (cS A φ) l (l.map realI)
  | [], _, _, _, _ => .nil
  | _ :: _, [], h, _, _ => by cases h
  | a :: l, b :: r, h, A, φ => by
    have h' : oif (sameI a b) (allI l r) false = true := h
    rw [oif_if] at h'
    split at h'
    · rename_i h1
      obtain ⟨rfl, k, n, rfl⟩ := sameI_some h1
      exact .cons rfl (allI_all h' A φ)
    · cases h'
theorem asIs_some {h : Hp} {bs off b o N : Nat} {es : List SV} (k : asIs h bs off b o N es = true) : ((∃ mc ex, rd h bs off 1 = some [.slice b o N mc ex 1] ∧ rd h b o N = some es) ∨ ∃ rows, rd h bs off 1 = some [.lst rows] ∧ flat 1 rows = some es ∧ es.length = N) ∧ ∀ (A : Nat → Int) (φ : Phi), All2 (cS A φ) es (es.map realI) ∧ ∀ (vs : List Value), All2 (cS A φ) es vs → vs = es.map realI := by
  unfold asIs at k
  cases h1 : rd h bs off 1 with
  | none => rw [h1] at k; cases k
  | some c =>
    rw [h1] at k
    have k' : oif (isSl b o N c) (Option.rec (motive := fun _ => Bool) false (fun c => allI c es) (rd h b o N)) (oif (Nat.beq (llen es) N) (isLs es c) false) = true := k
    rw [oif_if] at k'
    split at k'
    · rename_i h2
      obtain ⟨mc, ex, rfl⟩ := isSl_some h2
      cases h3 : rd h b o N with
      | none => rw [h3] at k'; cases k'
      | some c2 =>
        rw [h3] at k'
        obtain ⟨rfl, h4⟩ := allI_some (show allI c2 es = true from k')
        exact ⟨.inl ⟨mc, ex, rfl, rfl⟩, fun A φ => ⟨allI_all (show allI c2 c2 = true from k') A φ, h4 A φ⟩⟩
    · rw [oif_if] at k'
      split at k'
      · rename_i h2 h3
        obtain ⟨rows, rfl, h4, h5⟩ := isLs_some k'
        rw [nbeq, llen_eq] at h3
        exact ⟨.inr ⟨rows, rfl, h4, h3⟩, fun A φ => ⟨allI_all h5 A φ, (allI_some h5).2 A φ⟩⟩
      · cases k'
/-- a function that hands on a slice's elements from its end -/
def Iter (P : Program) (gf : FuncId) : Prop :=
  FnOk P gf ∧ ∀ (box : Addr) (N : Nat) (vs : List Value) (m l : Nat) (J : Nat → World → Prop) (W : World), vs.length = N → N ≤ 1000000 →
    (∀ k W W', W'.heap = W.heap → W'.os = W.os → W'.tape = W.tape → W'.output = W.output → J k W → J k W') →
    (∀ k W, J k W → ∃ ad cap, W.cell? box = some (.slice (some ad) N cap) ∧ ∀ j v, vs[j]? = some v → W.cell? (ad.add j) = some v) →
    (∀ k v W1, k < N → vs[N - 1 - k]? = some v → J k W1 → YieldAt Fence.wide m P l #[.int .i64 ((N - 1 - k : Nat) : Int), v] W1 fun e W' => e = .returned (.bool true) ∧ J (k + 1) W') →
    J 0 W → CallsIn Fence.wide (m + 1) P gf #[.func (.yield l) #[] #[], .pointer (some box)] W fun e W' => (∃ v, e = .returned v) ∧ J N W'
section
variable {P : Program} {A : Nat → Int} {φ φ' : Phi} {h h' : Hp} {w W : World}
theorem Rel.putObj (k : Rel A φ h w) {l : Nat} {o : Obj} (hl : w.heap[l]? = some o) (h1 : ∀ c t z, o ≠ .cells c t z) (h2 : ∀ e c, o ≠ .map e c) (o' : Obj) : Rel A φ h (w.putObj l o') := by
  refine ⟨k.wf, k.dom, fun n x hx => (k.blk n x hx).world (fun L hL => ?_), k.inj, fun b cs e => ?_, k.sep⟩
  rotate_left
  · obtain ⟨ty, h9⟩ := k.con b cs e
    refine ⟨ty, ?_⟩
    rw [World.putObj_heap_other (fun e' => by rw [e', hl] at h9; exact h1 _ _ _ (Option.some.inj h9))]
    exact h9
  refine World.putObj_heap_other (fun e => ?_)
  have hb := k.blk n x hx
  cases x with
  | arr cs ty =>
    obtain ⟨L', c, e1, e2, _⟩ := hb
    rw [hL] at e1; cases e1
    rw [e, hl] at e2
    exact h1 _ _ _ (Option.some.inj e2)
  | map va es =>
    obtain ⟨L', es', cl, e1, e2, _⟩ := hb
    rw [hL] at e1; cases e1
    rw [e, hl] at e2
    exact h2 _ _ (Option.some.inj e2)
theorem Rel.notObj (k : Rel A φ h w) {l : Nat} {o : Obj} (hl : w.heap[l]? = some o) (h1 : ∀ c t z, o ≠ .cells c t z) (h2 : ∀ e c, o ≠ .map e c) {n : Nat} {L : Lc} (hn : (h.get n).isSome = true) (hL : φ n = some L) : L.b ≠ l := by
  intro e
  cases hx : h.get n with
  | none => rw [hx] at hn; cases hn
  | some x =>
    have hb := k.blk n x hx
    cases x with
    | arr cs ty =>
      obtain ⟨L', c, e1, e2, _⟩ := hb
      rw [hL] at e1; cases e1
      rw [e, hl] at e2
      exact h1 _ _ _ (Option.some.inj e2)
    | map va es =>
      obtain ⟨L', es', cl, e1, e2, _⟩ := hb
      rw [hL] at e1; cases e1
      rw [e, hl] at e2
      exact h2 _ _ (Option.some.inj e2)
theorem Step.putObj {V : Nat → Prop} (s : Step V φ φ' h h' w W) {l : Nat} (hl : w.heap.size ≤ l) (o' : Obj) : Step V φ φ' h h' w (W.putObj l o') := by
  have hsz : (W.putObj l o').heap.size = W.heap.size := by simp [World.putObj]
  exact ⟨s.abs, s.ext, s.kle, s.knew, s.os, s.tape, s.output, (by rw [hsz]; exact s.size), fun b hb hv => (World.putObj_heap_other (by omega)).trans (s.old b hb hv), s.new⟩
theorem Step.allocObj {V : Nat → Prop} (s : Step V φ φ' h h' w W) (o' : Obj) : Step V φ φ' h h' w (W.alloc o') := by
  have hs : (W.alloc o').heap.size = W.heap.size + 1 := by simp
  refine ⟨s.abs, s.ext, s.kle, s.knew, s.os, s.tape, s.output, by rw [hs]; have := s.size; omega, fun b hb hv => ?_, s.new⟩
  rw [(MapKept.heap_alloc W o').2 b (Nat.lt_of_lt_of_le hb s.size)]
  exact s.old b hb hv
theorem Rel.allocObj (k : Rel A φ h w) (o' : Obj) : Rel A φ h (w.alloc o') :=
  ⟨k.wf, k.dom, fun n x hx => (k.blk n x hx).world (fun L hL => by
    obtain ⟨L', hL', hb⟩ := (k.blk n x hx).some_loc
    rw [hL] at hL'; cases hL'
    exact (MapKept.heap_alloc w o').2 _ hb), k.inj, fun b cs e => by
    obtain ⟨ty, h9⟩ := k.con b cs e
    exact ⟨ty, by rw [(MapKept.heap_alloc w o').2 b (k.conLt e)]; exact h9⟩, k.sep⟩
end
section
variable {P : Program} {A : Nat → Int} {T : Tr TI} {F : Fns}
theorem back_sound (env : Env P A T F) {fuel : Nat} {g : Operand} {tk tv d0 id nt d : Nat} {o1 : Oper} {body : Code} {ib : IC} {π : List Nat} {gf : FuncId}
    (hit : Iter P gf) (ho1 : o1.op = .assign (.tmp tv)) (hd1 : o1.dst = some d0) (hg1 : o1.guard = none) (hfl : flatC body = true) (hc : cCode T [] π nt body = some ib)
    (hd : idx d0 π 0 = some d) (hk : idx tk π 0 = none) (hv : idx tv π 0 = none) (hkv : tk ≠ tv) (hbd : d0 < nt) (hbv : tv < nt)
    {φ : Phi} {h : Hp} {w : World} {a : Act} {fr : List AV} (rel : Rel A φ h w) (hf : FrR A φ π fr a) (hnt : nt ≤ a.tmps.size)
    {bs off b o N : Nat} {es : List SV} {hfin : Hp} (hN : 0 < N) (hN2 : N ≤ 1000000) {box : Addr} (hgv : a.eval g = .func (.func gf) #[] #[.pointer (some box)]) (hbox : cPtr φ bs off (.pointer (some box)))
    (has : asIs h bs off b o N es = true) (hr : rounds F fuel ib fr d bs off b o N es N h = some hfin) {Q : Exit → Act → World → Prop}
    (hQ : ∀ φ' w' D, Step (fun n => h.lo ≤ n) φ φ' h hfin w w' → Rel A φ' hfin w' → w.heap.size ≤ D → w'.heap[D]? = some (.deferred (some [])) → Q .normal { a with defers := { target := .collected D, args := #[] } :: a.defers } w') :
    (Code.rangeFunc g #[tk, tv] (.region id #[o1] false) body).wp P Q a w := by
  refine (wpIn_wide (n := 2)).1 (wpIn_rangeFunc ?_)
  intro fn _
  obtain ⟨hsrc, hes⟩ := asIs_some has
  have hall := (hes A φ).1
  obtain ⟨vs0, hvs0⟩ : ∃ vs0, es.map realI = vs0 := ⟨_, rfl⟩
  rw [hvs0] at hall
  have hvs0 := hvs0.symm
  have hlen : (es.map realI).length = N := by
    rcases hsrc with ⟨mc, ex, hr1, hr2⟩ | ⟨rows, hr1, hr2, hr3⟩
    · obtain ⟨L, vs1, _, _, hall1, hlen0, _⟩ := rd_sound rel hr2
      rw [← (hes A φ).2 vs1 hall1]; exact hlen0
    · rw [List.length_map]; exact hr3
  obtain ⟨Lx, hLx, hbx⟩ := hbox
  have hbx' : box = ⟨Lx.b, Lx.o + off, none⟩ := by simpa using hbx
  have hbsn : bs < h.next := by
    rcases Nat.lt_or_ge bs h.next with h1 | h1
    · exact h1
    · rw [rel.dom bs h1] at hLx; cases hLx
  obtain ⟨rec, hrec⟩ : ∃ rec : LoopState → Option Code → Loop, rec = fun st pe => { state := st, pending := pe, fn, tmps := a.tmps, params := #[tk, tv], assign := .region id #[o1] false, body, defers := w.heap.size } := ⟨_, rfl⟩
  let J : Nat → World → Prop := fun k W => ∃ φ' h', rounds F fuel ib fr d bs off b o N es (N - k) h' = some hfin ∧ asIs h' bs off b o N es = true ∧ Step (fun n => h.lo ≤ n) φ φ' h h' w W ∧ Rel A φ' h' W ∧
    W.heap[w.heap.size + 1]? = some (.loop (rec .ready none)) ∧ W.heap[w.heap.size]? = some (.deferred (some []))
  have hframe : ∀ k W W', W'.heap = W.heap → W'.os = W.os → W'.tape = W.tape → W'.output = W.output → J k W → J k W' := by
    rintro k W W' e1 e2 e3 e4 ⟨φ', h', q1, q2, s, r, q3, q4⟩
    refine ⟨φ', h', q1, q2, ⟨s.abs, s.ext, s.kle, s.knew, e2.trans s.os, e3.trans s.tape, e4.trans s.output, by rw [e1]; exact s.size, fun p hp hv => by rw [e1]; exact s.old p hp hv, s.new⟩, r.heap e1, by rw [e1]; exact q3, by rw [e1]; exact q4⟩
  have hcells : ∀ k W, J k W → ∃ ad cap, W.cell? box = some (.slice (some ad) N cap) ∧ ∀ j v, (es.map realI)[j]? = some v → W.cell? (ad.add j) = some v := by
    rintro k W ⟨φ', h', q1, q2, s, r, q3, q4⟩
    obtain ⟨q5, q6⟩ := asIs_some q2
    rcases q5 with ⟨mc', ex', t1, t2⟩ | ⟨rows, t1, t2, t3⟩
    · obtain ⟨L1, us, u1, _, u2, u3, u4⟩ := rd_sound r t1
      rw [s.ext bs hbsn, hLx] at u1
      cases u1
      cases u2 with
      | @cons _ x _ us' hx hn =>
        cases hn
        obtain ⟨L2, ad, cap, y1, rfl, y2, y3, y4, y5⟩ := hx
        have hcap : cap ≠ 0 := by omega
        rcases y5 with ⟨rfl, _⟩ | y5
        · refine ⟨⟨L2.b, L2.o + o, none⟩, cap, ?_, fun j v hj => ?_⟩
          · have := u4 0 _ rfl
            rw [hbx']
            simpa using this
          · obtain ⟨L3, vs3, z1, _, z2, z3, z4⟩ := rd_sound r t2
            rw [y1] at z1
            cases z1
            rw [← (q6 A φ').2 vs3 z2] at hj
            rw [addr_add]
            exact z4 j v hj
        · exact absurd y5 hcap
    · obtain ⟨L1, us, u1, _, u2, u3, u4⟩ := rd_sound r t1
      rw [s.ext bs hbsn, hLx] at u1
      cases u1
      cases u2 with
      | @cons _ x _ us' hx hn =>
        cases hn
        obtain ⟨ad, cap, news, rfl, z2, z3, z4⟩ := flat_sound r (show cD A φ'.k (.lst rows) x from hx) t2
        have hrl : rows.length = N := by
          have := (flat_some t2).1
          omega
        refine ⟨ad, cap, ?_, fun j v hj => ?_⟩
        · have := u4 0 _ rfl
          rw [hbx', ← hrl]
          simpa using this
        · rw [← (q6 A φ').2 news z2] at hj
          exact z4 j v hj
  obtain ⟨W1, hW1⟩ : ∃ W1, (w.alloc (.deferred (some []))).alloc (.loop (rec .ready none)) = W1 := ⟨_, rfl⟩
  have hL1 : W1.heap[w.heap.size + 1]? = some (.loop (rec .ready none)) := by
    rw [← hW1]; have := (MapKept.heap_alloc (w.alloc (.deferred (some []))) (.loop (rec .ready none))).1; simpa using this
  have hK1 : W1.heap[w.heap.size]? = some (.deferred (some [])) := by
    rw [← hW1, (MapKept.heap_alloc (w.alloc (.deferred (some []))) (.loop (rec .ready none))).2 _ (by simp)]
    exact (MapKept.heap_alloc w _).1
  have h0 : J 0 W1 := by
    refine ⟨φ, h, hr, has, ?_, ?_, hL1, hK1⟩
    · rw [← hW1]; exact ((Step.refl _ rel rfl rfl rfl rfl).allocObj _).allocObj _
    · rw [← hW1]; exact (rel.allocObj _).allocObj _
  have hnl : ∀ st pe, (∀ c t z, Obj.loop (rec st pe) ≠ .cells c t z) ∧ ∀ e c, Obj.loop (rec st pe) ≠ .map e c := fun st pe => ⟨fun c t z e => by (cases e), fun e c e' => by (cases e')⟩
  have hround : ∀ k v W1, k < N → (es.map realI)[N - 1 - k]? = some v → J k W1 → YieldAt Fence.wide 0 P (w.heap.size + 1) #[.int .i64 ((N - 1 - k : Nat) : Int), v] W1 fun e W' => e = .returned (.bool true) ∧ J (k + 1) W' := by
    rintro k v W hkN hvk ⟨φ', h', q1, q2, s, r, q3, q4⟩
    rw [show N - k = (N - 1 - k) + 1 by omega] at q1
    obtain ⟨e0, he0, q5⟩ := ob_some.1 (show ob (lget es (N - 1 - k)) (fun e => ob (run F fuel ib (.mk (lset fr d (.s e)) h')) (fun p =>
      Ex.casesOn (motive := fun _ => Option Hp) p.1 (St.casesOn (motive := fun _ => Option Hp) p.2 (fun _ h' => oif (asIs h' bs off b o N es) (rounds F fuel ib fr d bs off b o N es (N - 1 - k) h') none)) (fun _ => none) none)) = some hfin from q1)
    obtain ⟨p, hp, q6⟩ := ob_some.1 q5
    obtain ⟨ex0, st0⟩ := p
    cases ex0 with
    | exit id => cases q6
    | ret => cases q6
    | normal =>
    obtain ⟨fr2, h2⟩ := st0
    obtain ⟨q7, q8⟩ := oif_some.1 (show oif (asIs h2 bs off b o N es) (rounds F fuel ib fr d bs off b o N es (N - 1 - k) h2) none = some hfin from q6)
    rw [lget_eq] at he0
    have hve : cS A φ e0 v := by
      obtain ⟨u, hu, hc1⟩ := hall.get _ _ he0
      rw [hvs0, hvk] at hu
      cases hu
      exact hc1
    have hy := run_yield (P := P) (args := #[.int .i64 ((N - 1 - k : Nat) : Int), v]) q3 (by rw [hrec]; rfl)
    rw [hrec] at hy
    refine ⟨fn, _, _, body, hy, roundIn_of_wpIn trivial ?_⟩
    have hle := s.le rel
    have hl0 : w.heap.size ≤ w.heap.size + 1 := Nat.le_succ _
    -- the assignment
    refine wpIn_region (wpOpsIn_of_wpOps (by rintro ⟨_, _, h⟩; exact h) (fun i q hq c => ?_) _ _ _ ?_)
    · have : q = o1 := by
        rcases i with _ | i
        · exact (Option.some.inj (show some o1 = some q from hq)).symm
        · simp at hq
      subst this
      rw [ho1]; intro e; cases e
    obtain ⟨tm, htm⟩ : ∃ tm, (Array.zip #[tk, tv] #[Value.int .i64 ((N - 1 - k : Nat) : Int), v]).foldl (fun t (p, v) => t.setIfInBounds p v) a.tmps = tm := ⟨_, rfl⟩
    have htm' : tm = (a.tmps.setIfInBounds tk (.int .i64 ((N - 1 - k : Nat) : Int))).setIfInBounds tv v := by rw [← htm, ← Array.foldl_toList, Array.toList_zip]; rfl
    have hsz : tm.size = a.tmps.size := by rw [htm']; simp
    have hget : tm.getD tv undef = v := by
      rw [htm', Array.getD_eq_getD_getElem?, Array.getElem?_setIfInBounds_self_of_lt (by simp; omega)]
      rfl
    have hoth : ∀ t, t ≠ tk → t ≠ tv → tm.getD t undef = a.tmps.getD t undef := by
      intro t h1 h2
      rw [htm', Array.getD_eq_getD_getElem?, Array.getD_eq_getD_getElem?, Array.getElem?_setIfInBounds_ne (Ne.symm h2), Array.getElem?_setIfInBounds_ne (Ne.symm h1)]
    show wpOps P #[o1] _ [0] { tmps := _, defers := [] } W
    rw [htm]
    have hw1 : ∀ y, Region.wanted o1 y = true := fun y => by simp [Region.wanted, hg1]
    simp only [wpOps]
    rw [show (#[o1] : Array Oper)[0]? = some o1 from rfl]
    simp only [hw1, if_true]
    refine Or.inl (wp_of_next (rv := v) (n := .value v) (w' := W) ?_ rfl ?_)
    · simp only [execOp, ho1]
      rw [show Act.eval { tmps := tm, defers := [] } (.tmp tv) = v from hget]
      rfl
    -- the body
    show ∃ w₂, _
    refine ⟨_, run_beginRound q3 (by rw [hrec]), ?_⟩
    have hW2l : (W.putObj (w.heap.size + 1) (.loop { rec .ready none with state := .busy })).heap[w.heap.size + 1]? = some (.loop { rec .ready none with state := .busy }) := World.putObj_heap_same (Array.getElem?_eq_some_iff.1 q3).1
    have hW2d : (W.putObj (w.heap.size + 1) (.loop { rec .ready none with state := .busy })).heap[w.heap.size]? = some (.deferred (some [])) := (World.putObj_heap_other (by omega)).trans q4
    have r2 := r.putObj q3 (hnl _ _).1 (hnl _ _).2 (.loop { rec .ready none with state := .busy })
    have s2 := s.putObj hl0 (.loop { rec .ready none with state := .busy })
    have hfr : FrR A φ' π (lset fr d (.s e0)) (({ tmps := tm, defers := [] } : Act).put o1.dst v) := by
      intro t j u hj hu
      rw [hd1, getD_put (show d0 < ({ tmps := tm, defers := [] } : Act).tmps.size by show d0 < tm.size; omega)]
      rw [lset_eq] at hu
      by_cases et : t = d0
      · subst et
        rw [if_pos rfl]
        rw [hd] at hj
        cases hj
        rw [List.getElem?_set] at hu
        rw [if_pos rfl] at hu
        split at hu
        · cases hu; exact (show cV A φ (.s e0) v from hve).mono hle
        · cases hu
      · rw [if_neg et]
        have hjd : d ≠ j := by
          intro e
          subst e
          have h1 := idx_get hd
          have h2 := idx_get hj
          rw [h1] at h2
          exact et (Option.some.inj h2).symm
        rw [List.getElem?_set_ne hjd] at hu
        have h1 : t ≠ tk := fun e => by subst e; rw [hk] at hj; cases hj
        have h2 : t ≠ tv := fun e => by subst e; rw [hv] at hj; cases hj
        show cV A φ' u (tm.getD t undef)
        rw [hoth t h1 h2]
        exact (hf t j u hj hu).mono hle
    refine (soundIn_all env (w.heap.size + 1) 0 fuel).1 ib _ h' .normal (.mk fr2 h2) hp body π nt hc hfl φ' _ _ r2 hfr (by rw [put_size]; show nt ≤ tm.size; omega) _ ?_
    intro φ2 fr3 h3 a3 w3 es3 st3 r3 f3 d3 z3
    cases es3
    have hkeep : ∀ (D : Nat) (ob : Obj), (∀ c t z, ob ≠ .cells c t z) → (∀ e c, ob ≠ .map e c) → (W.putObj (w.heap.size + 1) (.loop { rec .ready none with state := .busy })).heap[D]? = some ob → w3.heap[D]? = some ob := by
      intro D ob n1 n2 hD
      rw [st3.old D (Array.getElem?_eq_some_iff.1 hD).1 (fun n Ln _ hn hLn => r2.notObj hD n1 n2 hn hLn)]
      exact hD
    have hl3 := hkeep _ _ (fun c t z e => by cases e) (fun e c e' => by cases e') hW2l
    have hd3 := hkeep _ _ (fun c t z e => by cases e) (fun e c e' => by cases e') hW2d
    refine ⟨_, _, run_endRound none hl3, rfl, φ2, h2, ?_, q7, ?_, ?_, ?_, ?_⟩
    · rw [show N - (k + 1) = N - 1 - k by omega]; exact q8
    · exact (s2.trans' st3).putObj hl0 _
    · exact r3.putObj hl3 (fun c t z e => by cases e) (fun e c e' => by cases e') _
    · rw [World.putObj_heap_same (Array.getElem?_eq_some_iff.1 hl3).1, hrec]
      rfl
    · exact (World.putObj_heap_other (by omega)).trans hd3
  refine ⟨w.heap.size + 1, [{ target := .collected w.heap.size, args := #[] }], W1, { target := .fn (.func gf) #[.pointer (some box)], args := #[.func (.yield (w.heap.size + 1)) #[] #[]] }, W1, gf,
    #[.func (.yield (w.heap.size + 1)) #[] #[], .pointer (some box)], W1, ?_, ?_, fun _ _ => trivial, ?_, fun e => (by cases e), ?_⟩
  · rw [← hW1, hrec]; exact run_enterLoop_outer _ _ _ _ _
  · simp only [resolve, hgv]
    simp [go_sem]
  · simp only [invoke]
    exact run_callFunc hit.1 _
  · refine CallsIn.mono (hit.2 box N (es.map realI) 0 (w.heap.size + 1) J W1 hlen hN2 hframe hcells hround h0) ?_
    rintro e W2 ⟨⟨v, rfl⟩, φ', h', q1, q2, s, r, q3, q4⟩
    rw [Nat.sub_self] at q1
    cases (show some h' = some hfin from q1)
    refine ⟨none, _, by have := run_endLoop (P := P) q3 (by rw [hrec]; simp); rw [hrec] at this; exact this, ?_⟩
    exact hQ φ' _ w.heap.size (s.putObj (Nat.le_succ _) _) (r.putObj q3 (hnl _ _).1 (hnl _ _).2 _) (Nat.le_refl _) ((World.putObj_heap_other (by omega)).trans q4)
end
end Go.Proofs.YtmaaalpegnhjcaaDoor.Ev
