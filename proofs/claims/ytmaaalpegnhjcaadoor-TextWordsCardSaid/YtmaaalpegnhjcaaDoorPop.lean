/- Each of the interpreter's operations on values does what the model's does. No program in sight. -/
import Derived.Test.YtmaaalpegnhjcaaDoorPure
namespace Go.Proofs.YtmaaalpegnhjcaaDoor.Ev
open Go
set_option linter.unusedVariables false
set_option linter.unusedSimpArgs false

section
variable {P : Program} {T : Tr TI} {w : World} {A : Nat → Int} {φ : Phi}
/-- operands: what stands for them is what they are -/
def Opnd (A : Nat → Int) (φ : Phi) (π : List Nat) (loc : List (Option Nat)) (st fr : List AV) (os : List Operand) (ρ : Operand → Value) : Prop :=
  ∀ x, x ∈ os → ∀ y v, cO π loc x = some y → ev st fr y = some v → cV A φ v (ρ x)
theorem mem_call {c : Callee} {args : Array Operand} {ts : Array TypeId} {x : Operand} (h : x ∈ args.toList) : x ∈ (Op.call ⟨c, args, ts⟩).operands.toList := by
  simp only [Op.operands, Call.operands, Array.toList_append, List.mem_append]
  exact .inr h
theorem mem_callee {f : Operand} {args : Array Operand} {ts : Array TypeId} : f ∈ (Op.call ⟨.value f, args, ts⟩).operands.toList := by
  simp [Op.operands, Call.operands]
theorem run_mapM_list {α β : Type} {f : α → Sem β} {g : α → β} : ∀ (l : List α), (∀ x ∈ l, (f x).run P w = .ok (g x) w) → (l.mapM f).run P w = .ok (l.map g) w
  | [], _ => by simp
  | a :: l, h => by
    have ih := run_mapM_list l (fun x hx => h x (by simp [hx]))
    simp [h a (by simp), ih]
theorem run_mapM {α β : Type} {f : α → Sem β} {g : α → β} (l : Array α) (h : ∀ x ∈ l.toList, (f x).run P w = .ok (g x) w) : (l.mapM f).run P w = .ok (l.map g) w := by
  obtain ⟨l⟩ := l
  simp only [List.mapM_toArray, Sem.run_map, run_mapM_list l h, Result.andThen_ok, List.map_toArray]
/-- cells laid into an aggregate -/
theorem foldl_set (off : Nat) : ∀ (l : List Value) (k : Nat) (arr : Array Value), off + k + l.length ≤ arr.size →
    ((l.zipIdx k).foldl (fun a p => a.setIfInBounds (off + p.2) p.1) arr).toList = arr.toList.take (off + k) ++ (l ++ arr.toList.drop (off + k + l.length))
  | [], k, arr, h => by simp
  | v :: l, k, arr, h => by
    simp only [List.length_cons] at h
    rw [List.zipIdx_cons, List.foldl_cons, foldl_set off l (k + 1) _ (by simp; omega)]
    have e := list_seg_step arr.toList (off + k) v l (by simp; omega)
    simp only [Array.toList_setIfInBounds, List.length_cons]
    have e1 : off + (k + 1) = off + k + 1 := by omega
    rw [e1]
    simpa [List.append_assoc] using e
theorem fill_cells (off : Nat) (cs arr : Array Value) (h : off + cs.size ≤ arr.size) :
    (cs.zipIdx.foldl (fun a (p : Value × Nat) => a.setIfInBounds (off + p.2) p.1) arr).toList = arr.toList.take off ++ (cs.toList ++ arr.toList.drop (off + cs.size)) := by
  have := foldl_set off cs.toList 0 arr (by simpa using h)
  rw [← Array.foldl_toList, Array.toList_zipIdx]
  simpa using this
theorem fill_sound {π : List Nat} {loc : List (Option Nat)} {st fr : List AV} {os : List Operand} {ρ : Operand → Value} (hE : Opnd A φ π loc st fr os ρ) {place : Nat → Option (Nat × Nat)} :
    ∀ (ps : List (Nat × Operand)) (l : List (Nat × Nat × Od)) (cs cs' : List SV) (arr : Array Value), (∀ p, p ∈ ps → p.2 ∈ os) → cParts π loc place ps = some l → fill st fr l cs = some cs' → All2 (cS A φ) cs arr.toList →
      ∃ arr' : Array Value, Instr.fill place arr (ps.map fun p => (p.1, ρ p.2)) = some arr' ∧ All2 (cS A φ) cs' arr'.toList
  | [], l, cs, cs', arr, hm, h, h', ha => by
    simp [cParts] at h
    subst h
    cases (show some cs = some cs' from h')
    exact ⟨arr, rfl, ha⟩
  | (i, o) :: ps, l, cs, cs', arr, hm, h, h', ha => by
    simp only [cParts] at h
    split at h
    · rename_i off n y l' hp ho hl
      cases h
      have h2 : ob (ev st fr y) (fun v => cel v (fun xs => oif (Nat.beq (llen xs) n) (ob (loverAt off xs cs) (fill st fr l')) none)) = some cs' := h'
      obtain ⟨v, hv, h3⟩ := ob_some.1 h2
      obtain ⟨xs, h4, h5⟩ := (hE _ (hm (i, o) (by simp)) _ _ ho hv).cells h3
      obtain ⟨h6, h7⟩ := oif_some.1 h4
      obtain ⟨cs1, h8, h9⟩ := ob_some.1 h7
      obtain ⟨h10, rfl⟩ := (loverAt_some _).1 h8
      rw [nbeq, llen_eq] at h6
      have hxl := h5.len
      have hal := ha.len
      simp only [Array.length_toList] at hxl hal
      have hfc := fill_cells off (ρ o).cells arr (by omega)
      obtain ⟨arr', h11, h12⟩ := fill_sound hE ps l' _ cs' _ (fun p hp => hm p (by simp [hp])) hl h9 (by rw [hfc]; exact (ha.take off).append (h5.append (by rw [hxl]; exact ha.drop _)))
      refine ⟨arr', ?_, h12⟩
      simp only [List.map_cons, Instr.fill, hp]
      rw [if_neg (by simp; omega)]
      exact h11
    · cases h
theorem bound_some {π : List Nat} {loc : List (Option Nat)} {st fr : List AV} {os : List Operand} {ρ : Operand → Value} (hE : Opnd A φ π loc st fr os ρ) {x : Option Operand} (hm : ∀ o, x = some o → o ∈ os) {y : Option Od} {e n : Nat} (h : cOo π loc x = some y) (h' : bound st fr y e = some n) :
    (x = none ∧ n = e) ∨ ∃ o k, x = some o ∧ ρ o = .int k (n : Int) := by
  cases x with
  | none =>
    cases (show some none = some y from h)
    exact .inl ⟨rfl, (Option.some.inj (show some e = some n from h')).symm⟩
  | some o =>
    obtain ⟨z, hz, rfl⟩ := Option.map_eq_some_iff.1 (show (cO π loc o).map some = some y from h)
    obtain ⟨v, hv, h2⟩ := ob_some.1 (show ob (ev st fr z) (fun x => sInt x (fun _ n => Int.casesOn (motive := fun _ => Option Nat) n (fun m => some m) (fun _ => none))) = some n from h')
    obtain ⟨k, i, rfl, h3⟩ := sInt_some h2
    cases i with
    | ofNat m => cases h3; exact .inr ⟨o, k, rfl, hE _ (hm o rfl) _ _ hz hv⟩
    | negSucc m => cases h3
theorem run_slice {t e : TypeId} {size : Nat} (hu : P.underlying t = some (.slice e)) (hs : (sizeOf e).run P w = .ok size w) (a : Option Addr) (len cap lo hi : Nat) (x y : Option Value)
    (hx : (x = none ∧ lo = 0) ∨ ∃ k, x = some (.int k (lo : Int))) (hy : (y = none ∧ hi = len) ∨ ∃ k, y = some (.int k (hi : Int))) (h1 : lo ≤ hi) (h2 : hi ≤ cap) :
    (Instr.sliceAt t (.slice a len cap) x y none).run P w = .ok (.slice (if cap = lo then a else a.map (·.add (lo * size))) (hi - lo) (cap - lo)) w := by
  have h1' : (lo : Int) ≤ (hi : Int) := by omega
  have h2' : (hi : Int) ≤ (cap : Int) := by omega
  rcases hx with ⟨rfl, rfl⟩ | ⟨k, rfl⟩ <;> rcases hy with ⟨rfl, rfl⟩ | ⟨k', rfl⟩ <;>
    simp [Instr.sliceAt, run_underlying hu, Instr.slice, Instr.sliceBounds, Instr.sliceBound, asIntOf, hs, h1, h2] <;> first | (intros; omega) | skip
theorem run_slice3 {t e : TypeId} {size : Nat} (hu : P.underlying t = some (.slice e)) (hs : (sizeOf e).run P w = .ok size w) (a : Option Addr) (len cap lo hi m : Nat) (x : Option Value) (k' k2 : IntKind)
    (hx : (x = none ∧ lo = 0) ∨ ∃ k, x = some (.int k (lo : Int))) (h1 : lo ≤ hi) (h2 : hi ≤ m) (h3 : m ≤ cap) :
    (Instr.sliceAt t (.slice a len cap) x (some (.int k' (hi : Int))) (some (.int k2 (m : Int)))).run P w = .ok (.slice (if m = lo then a else a.map (·.add (lo * size))) (hi - lo) (m - lo)) w := by
  have h1' : (lo : Int) ≤ (hi : Int) := by omega
  have h2' : (hi : Int) ≤ (m : Int) := by omega
  have h3' : (m : Int) ≤ (cap : Int) := by omega
  rcases hx with ⟨rfl, rfl⟩ | ⟨k, rfl⟩ <;>
    simp [Instr.sliceAt, run_underlying hu, Instr.slice, Instr.sliceBounds, Instr.sliceBound, asIntOf, hs, h1, h2, h3]
theorem addr_add (b o n : Nat) : (⟨b, o, none⟩ : Addr).add n = ⟨b, o + n, none⟩ := by
  unfold Addr.add
  split
  · rename_i h; simp [h]
  · rfl
theorem slice_sound {e : TypeId} {size b off len mc lo hi sz : Nat} {ex : Bool} {t : TypeId} {x : Value} (hx : cS A φ (.slice b off len mc ex sz) x) (hu : P.underlying t = some (.slice e)) (hs : (sizeOf e).run P w = .ok size w)
    {u v : Option Value} (hu' : (u = none ∧ lo = 0) ∨ ∃ k, u = some (.int k (lo : Int))) (hv' : (v = none ∧ hi = len) ∨ ∃ k, v = some (.int k (hi : Int))) (h1 : hi ≤ mc) (h2 : lo ≤ hi) (h3 : sz = size) :
    ∃ rv, (Instr.sliceAt t x u v none).run P w = .ok rv w ∧ cS A φ (.slice b (off + lo * size) (hi - lo) (mc - lo) ex sz) rv := by
  subst h3
  obtain ⟨L, ad, cap, k1, rfl, k2, k3, k4, k5⟩ := hx
  refine ⟨_, run_slice hu hs (some ad) len cap lo hi u v hu' hv' h2 (by omega), ?_⟩
  refine ⟨L, if cap = lo then ad else ad.add (lo * sz), cap - lo, k1, ?_, by omega, by omega, fun h => by have := k4 h; omega, ?_⟩
  · split <;> rfl
  · by_cases hc : cap = lo
    · exact .inr (by omega)
    · rw [if_neg hc]
      rcases k5 with ⟨rfl, k6⟩ | k6
      · refine .inl ⟨by rw [addr_add]; congr 1; omega, ?_⟩
        have : cap * sz = lo * sz + (cap - lo) * sz := by rw [← Nat.add_mul]; congr 1; omega
        omega
      · omega
theorem slice3_sound {e : TypeId} {size b off len mc lo hi m sz : Nat} {ex : Bool} {t : TypeId} {x : Value} (hx : cS A φ (.slice b off len mc ex sz) x) (hu : P.underlying t = some (.slice e)) (hs : (sizeOf e).run P w = .ok size w)
    {u : Option Value} (hu' : (u = none ∧ lo = 0) ∨ ∃ k, u = some (.int k (lo : Int))) (k' k2 : IntKind) (h1 : m ≤ mc) (h0 : hi ≤ m) (h2 : lo ≤ hi) (h3 : sz = size) :
    ∃ rv, (Instr.sliceAt t x u (some (.int k' (hi : Int))) (some (.int k2 (m : Int)))).run P w = .ok rv w ∧ cS A φ (.slice b (off + lo * size) (hi - lo) (m - lo) true sz) rv := by
  subst h3
  obtain ⟨L, ad, cap, q1, rfl, q2, q3, q4, q5⟩ := hx
  refine ⟨_, run_slice3 hu hs (some ad) len cap lo hi m u k' k2 hu' h2 h0 (by omega), ?_⟩
  refine ⟨L, if m = lo then ad else ad.add (lo * sz), m - lo, q1, ?_, by omega, by omega, fun h => by omega, ?_⟩
  · split <;> rfl
  · by_cases hc : m = lo
    · exact .inr (by omega)
    · rw [if_neg hc]
      rcases q5 with ⟨rfl, q6⟩ | q6
      · refine .inl ⟨by rw [addr_add]; congr 1; omega, ?_⟩
        have : m * sz = lo * sz + (m - lo) * sz := by rw [← Nat.add_mul]; congr 1; omega
        have : m * sz ≤ cap * sz := Nat.mul_le_mul_right _ (by omega)
        omega
      · omega
theorem part_sound {t : TypeId} {ti : TI} (k : TIok P t ti) (k1 : ti1 ti = true) {off : Nat} {cs : List SV} {arr : Array Value} (ha : All2 (cS A φ) cs arr.toList) {xs : List SV} {v : AV}
    (h : ltake ti.size (ldrop off cs) = some xs) (h' : mkAV ti.agg xs = some v) : ∃ rv, (part t arr off).run P w = .ok rv w ∧ cV A φ v rv := by
  rw [ldrop_eq] at h
  obtain ⟨h1, rfl⟩ := (ltake_some _).1 h
  simp only [List.length_drop] at h1
  have hal := ha.len
  simp only [Array.length_toList] at hal
  rcases mkAV_some h' with ⟨e, rfl⟩ | ⟨e, s, hs, rfl⟩
  · refine ⟨.agg (arr.extract off (off + ti.size)), by simp [part, k.run_agg, e, k.run_size], (arr.extract off (off + ti.size)).toList, by rw [Array.toArray_toList], ?_⟩
    have := (ha.drop off).take ti.size
    simpa [Array.toList_extract, List.extract_eq_take_drop] using this
  · have hsz : ti.size = 1 := by
      simp only [ti1, e, Bool.false_or, nbeq] at k1; exact k1
    have : (cs.drop off)[0]? = some s := by
      have : ((cs.drop off).take ti.size)[0]? = some s := by rw [hs]; rfl
      rwa [List.getElem?_take_of_lt (by omega)] at this
    rw [List.getElem?_drop, Nat.add_zero] at this
    obtain ⟨v, hv, hc⟩ := ha.get _ _ this
    rw [Array.getElem?_toList] at hv
    exact ⟨v, by simp [part, k.run_agg, e, hv], hc⟩
theorem max_sound {k : IntKind} {m n : Int} (as : Array TypeId) (t : TypeId) : (Builtin.max_ as t #[.int k m, .int k n]).run P w = .ok (.int k (oif (ile m n) n m)) w := by
  have e : (Builtin.max_ as t #[.int k m, .int k n]).run P w = .ok (.int k (if n > m then n else m)) w := by
    simp [Builtin.max_, Builtin.max2]
  rw [e, oif_if, ile_iff]
  congr 2
  by_cases h : m ≤ n <;> by_cases h' : n > m <;> simp [h, h'] <;> omega
theorem min_sound {k : IntKind} {m n : Int} (as : Array TypeId) (t : TypeId) : (Builtin.min_ as t #[.int k m, .int k n]).run P w = .ok (.int k (oif (ile m n) m n)) w := by
  have e : (Builtin.min_ as t #[.int k m, .int k n]).run P w = .ok (.int k (if n < m then n else m)) w := by
    simp [Builtin.min_, Builtin.min2]
  rw [e, oif_if, ile_iff]
  congr 2
  by_cases h : m ≤ n <;> by_cases h' : n < m <;> simp [h, h'] <;> omega
end
end Go.Proofs.YtmaaalpegnhjcaaDoor.Ev
