/- Each of the interpreter's operations on memory does what the model's does. No program in sight. -/
import Derived.Test.YtmaaalpegnhjcaaDoorMapS
import Derived.Laws.AppendOwn
import Derived.Laws.MakeOwn
import Derived.LaidEqlPtr
import Derived.Laws.BytesArg
import Derived.Laws.Strings
namespace Go.Proofs.YtmaaalpegnhjcaaDoor.Ev
open Go
set_option linter.unusedVariables false
set_option linter.unusedSimpArgs false
/-- what an operation leaves in its slot -/
def NextV : Next → Value → Prop
  | .value v, u => v = u
  | .skip, u => u = undef
  | _, _ => False
def clsW (h : Hp) : Cls → Nat → Prop
  | .fresh, _ => False
  | .load _, _ => False
  | .app b, n => n = b
  | .quiet, _ => False
  | .other, n => h.lo ≤ n
def MPost (A : Nat → Int) (W : Nat → Prop) (φ : Phi) (h : Hp) (w : World) (v : AV) (h' : Hp) (r : Result Next) : Prop :=
  ∃ n rv w' φ', r = .ok n w' ∧ NextV n rv ∧ Step W φ φ' h h' w w' ∧ Rel A φ' h' w' ∧ cV A φ' v rv
section
variable {P : Program} {T : Tr TI} {w w' : World} {A : Nat → Int} {φ : Phi} {h h' : Hp} {π : List Nat} {loc : List (Option Nat)} {st fr : List AV} {ρ : Operand → Value} {W V : Nat → Prop}
theorem MPost.mono (hw : ∀ n, W n → V n) {v : AV} {r : Result Next} (k : MPost A W φ h w v h' r) : MPost A V φ h w v h' r :=
  let ⟨n, rv, w', φ', a, b, c, d, e⟩ := k; ⟨n, rv, w', φ', a, b, c.mono hw, d, e⟩
theorem new_sound (k : Rel A φ h w) {cs : List SV} {ty : TypeId} {g : Nat → AV} {v : AV} (hv : nw h cs ty (fun n h => ok (g n) h) = some (v, h')) {c : Array Value} (gr : Grown w w' c ty)
    (hl : cs.length ≤ c.size) (hc : ∀ (i : Nat) sv, cs[i]? = some sv → ∃ v, c[i]? = some v ∧ cS A φ sv v) :
    ∃ φ', Step (fun _ => False) φ φ' h h' w w' ∧ Rel A φ' h' w' ∧ φ' h.next = some ⟨w.heap.size, 0, c.size⟩ ∧ v = g h.next ∧ φ.le φ' := by
  obtain ⟨h1, h2, h3⟩ := nw_some hv
  cases h3
  obtain ⟨s, r⟩ := k.push h1 h2 gr hl hc
  exact ⟨_, s, r, Phi.add_same _ _ _, rfl, s.le k⟩
theorem all2_get {cs : List SV} {c : Array Value} (ha : All2 (cS A φ) cs c.toList) : cs.length ≤ c.size ∧ ∀ (i : Nat) sv, cs[i]? = some sv → ∃ v, c[i]? = some v ∧ cS A φ sv v :=
  ⟨by have := ha.len; simp at this; omega, fun i sv hi => by obtain ⟨v, h1, h2⟩ := ha.get i sv hi; exact ⟨v, by simpa using h1, h2⟩⟩
theorem rd_sound (k : Rel A φ h w) {b off n : Nat} {xs : List SV} (hr : rd h b off n = some xs) :
    ∃ L vs, φ b = some L ∧ (h.get b).isSome = true ∧ All2 (cS A φ) xs vs ∧ vs.length = n ∧ ∀ j v, vs[j]? = some v → w.cell? ⟨L.b, L.o + off + j, none⟩ = some v := by
  obtain ⟨cs, ty, hg, rfl, hl⟩ := rd_some hr
  obtain ⟨L, c, h1, h3, h4, h5, h6⟩ := k.blk b _ hg
  have hlen : off + n ≤ cs.length ∨ n = 0 := by simp at hl; omega
  refine ⟨L, (c.toList.drop (L.o + off)).take n, h1, by rw [hg]; rfl, ?_, ?_, ?_⟩
  · refine All2.of_get ?_ ?_
    · simp at hl ⊢; omega
    · intro i a b ha hb
      have hin : i < n := by
        rcases Nat.lt_or_ge i n with h | h
        · exact h
        · rw [List.getElem?_eq_none (by simp; omega)] at ha; cases ha
      rw [List.getElem?_take_of_lt hin, List.getElem?_drop] at ha hb
      obtain ⟨v, hv, hc⟩ := h6 _ _ ha
      rw [Array.getElem?_toList, Nat.add_assoc, hv] at hb
      cases hb
      exact hc
  · simp at hl ⊢; omega
  · intro j v hv
    have hin : j < n := by
      rcases Nat.lt_or_ge j n with h | h
      · exact h
      · rw [List.getElem?_eq_none (by simp; omega)] at hv; cases hv
    rw [List.getElem?_take_of_lt hin, List.getElem?_drop] at hv
    simp only [World.cell?, h3]
    simpa using hv
theorem src_sound (k : Rel A φ h w) {b off m mc sz n : Nat} {ex : Bool} {x : Value} (hx : cS A φ (.slice b off m mc ex sz) x) {xs : List SV} (hr : rd h b off n = some xs) (hn : m = 0 → n = 0) :
    ∃ ad cap news, x = .slice (some ad) m cap ∧ All2 (cS A φ) xs news ∧ news.length = n ∧ ∀ j u, news[j]? = some u → w.cell? (ad.add j) = some u := by
  obtain ⟨L, ad, cap, q1, rfl, q2, q3, q4, q5⟩ := hx
  obtain ⟨L', vs, e1, _, e2, e3, e4⟩ := rd_sound k hr
  rw [q1] at e1
  cases e1
  refine ⟨ad, cap, vs, rfl, e2, e3, fun j u hu => ?_⟩
  rcases q5 with ⟨rfl, _⟩ | q5
  · rw [addr_add]; exact e4 j u hu
  · have : vs = [] := List.eq_nil_of_length_eq_zero (by rw [e3]; exact hn (by omega))
    rw [this] at hu
    cases hu
/-- cells that stay, as a list -/
theorem cells_list {R : SV → Value → Prop} {c : Array Value} {o : Nat} {cells : List SV} (h : ∀ (j : Nat) (x : SV), cells[j]? = some x → ∃ u, c[o + j]? = some u ∧ R x u) :
    ∃ vs, All2 R cells vs ∧ vs.length = cells.length ∧ ∀ (j : Nat) (u : Value), vs[j]? = some u → c[o + j]? = some u := by
  have hl : ((c.toList.drop o).take cells.length).length = cells.length := by
    rcases Nat.eq_zero_or_pos cells.length with h0 | h0
    · rw [h0]; simp
    · obtain ⟨u, h1, _⟩ := h (cells.length - 1) _ (List.getElem?_eq_getElem (by omega))
      have := (Array.getElem?_eq_some_iff.1 h1).1
      simp
      omega
  have hg : ∀ (j : Nat) (u : Value), ((c.toList.drop o).take cells.length)[j]? = some u → c[o + j]? = some u := fun j u hu => by
    rw [List.getElem?_take] at hu
    split at hu
    · rw [List.getElem?_drop] at hu
      simpa using hu
    · cases hu
  refine ⟨_, All2.of_get hl.symm (fun i a b ha hb => ?_), hl, hg⟩
  obtain ⟨u, h1, h2⟩ := h i a ha
  have := hg i b hb
  rw [h1] at this
  cases this
  exact h2
theorem all2_one {xs : List SV} {vs : List Value} (ha : All2 (cS A φ) xs vs) : ∀ v ∈ vs, v.oneCell' = true := by
  intro v hv
  induction ha with
  | nil => cases hv
  | cons a _ ih => rcases List.mem_cons.1 hv with rfl | h
                   · exact a.one.1
                   · exact ih h
theorem flat_some {size : Nat} : ∀ {rows : List (List SV)} {l : List SV}, flat size rows = some l → l.length = rows.length * size ∧ ∀ (i j : Nat) (row : List SV) (x : SV), rows[i]? = some row → row[j]? = some x → row.length = size ∧ l[i * size + j]? = some x
  | [], l, h => by cases h; exact ⟨by simp, fun i j row x hr => by simp at hr⟩
  | a :: r, l, h => by
    obtain ⟨h1, h2⟩ := oif_some.1 (show oif (Nat.beq (llen a) size) (ob (flat size r) (fun r => some (lapp a r))) none = some l from h)
    obtain ⟨l', h3, h4⟩ := ob_some.1 h2
    rw [lapp_eq] at h4
    cases h4
    rw [nbeq, llen_eq] at h1
    obtain ⟨h5, h6⟩ := flat_some h3
    refine ⟨by rw [List.length_append, h5, List.length_cons, Nat.succ_mul, h1]; omega, fun i j row x hr hx => ?_⟩
    cases i with
    | zero =>
      simp only [List.getElem?_cons_zero, Option.some.injEq] at hr
      subst hr
      have := (List.getElem?_eq_some_iff.1 hx).1
      exact ⟨h1, by rw [Nat.zero_mul, Nat.zero_add, List.getElem?_append_left this]; exact hx⟩
    | succ i =>
      have hr' : r[i]? = some row := by simpa using hr
      obtain ⟨h7, h8⟩ := h6 i j row x hr' hx
      refine ⟨h7, ?_⟩
      rw [List.getElem?_append_right (by rw [h1, Nat.succ_mul]; omega), ← h8]
      congr 1
      rw [h1, Nat.succ_mul]
      omega
theorem flat_row {size : Nat} {rows : List (List SV)} {l : List SV} (h : flat size rows = some l) (hs : 0 < size) {j : Nat} {x : SV} (hx : l[j]? = some x) : ∃ row, rows[j / size]? = some row ∧ row[j % size]? = some x := by
  obtain ⟨h1, h2⟩ := flat_some h
  have hlt : j < rows.length * size := by have := (List.getElem?_eq_some_iff.1 hx).1; omega
  have hq : j / size < rows.length := Nat.div_lt_of_lt_mul (by rw [Nat.mul_comm]; exact hlt)
  have hall : ∀ {rows : List (List SV)} {l : List SV}, flat size rows = some l → ∀ row ∈ rows, row.length = size := by
    intro rows
    induction rows with
    | nil => intro l _ row hr; simp at hr
    | cons a r ih =>
      intro l h row hr
      obtain ⟨h1, h2⟩ := oif_some.1 (show oif (Nat.beq (llen a) size) (ob (flat size r) (fun r => some (lapp a r))) none = some l from h)
      obtain ⟨l', h3, h4⟩ := ob_some.1 h2
      rw [nbeq, llen_eq] at h1
      rcases List.mem_cons.1 hr with rfl | h5
      · exact h1
      · exact ih h3 row h5
  have hrow := hall h rows[j / size] (List.getElem_mem hq)
  have hm : j % size < rows[j / size].length := by rw [hrow]; exact Nat.mod_lt _ hs
  refine ⟨rows[j / size], List.getElem?_eq_getElem hq, ?_⟩
  obtain ⟨_, h3⟩ := h2 (j / size) (j % size) _ _ (List.getElem?_eq_getElem hq) (List.getElem?_eq_getElem hm)
  rw [show j / size * size + j % size = j by rw [Nat.mul_comm]; exact Nat.div_add_mod j size, hx] at h3
  rw [List.getElem?_eq_getElem hm, h3]
theorem flat_sound (k : Rel A φ h w) {rows : List (List SV)} {size : Nat} {x : Value} (hx : cD A φ.k (.lst rows) x) {xs : List SV} (hr : flat size rows = some xs) :
    ∃ ad cap news, x = .slice (some ad) rows.length cap ∧ All2 (cS A φ) xs news ∧ news.length = rows.length * size ∧ ∀ (j : Nat) (u : Value), news[j]? = some u → w.cell? (ad.add j) = some u := by
  obtain ⟨ad, cap, rfl, hc, hcase⟩ := lst_view hx
  obtain ⟨h1, h2⟩ := flat_some hr
  by_cases h0 : xs = []
  · subst h0
    exact ⟨ad, cap, [], rfl, .nil, by simpa using h1, fun j u hj => by simp at hj⟩
  · have hpos : 0 < xs.length := by cases xs with | nil => exact absurd rfl h0 | cons a t => simp
    have hs : 0 < size := by
      rcases Nat.eq_zero_or_pos size with h | h
      · rw [h1, h, Nat.mul_zero] at hpos; omega
      · exact h
    rcases hcase with rfl | ⟨b, o, sz, cs, e1, rfl, e3, e4⟩
    · rw [h1] at hpos; simp at hpos
    · obtain ⟨ty, hb⟩ := k.con b cs e1
      have key : ∀ (j : Nat) (x : SV), xs[j]? = some x → ∃ u, cs[o + j]? = some u ∧ cD A φ.k x u := fun j x hx => by
        obtain ⟨row, g1, g2⟩ := flat_row hr hs hx
        obtain ⟨u, g3, g4⟩ := e4 _ _ row x g1 g2
        have g5 : sz = size := by rw [← e3 _ _ g1]; exact (h2 _ _ _ _ g1 g2).1
        refine ⟨u, ?_, g4⟩
        rw [← g3]
        congr 1
        rw [g5, Nat.add_assoc, show j / size * size + j % size = j by rw [Nat.mul_comm]; exact Nat.div_add_mod j size]
      obtain ⟨vs, a1, a2, a3⟩ := cells_list key
      refine ⟨_, cap, vs, rfl, a1.mono (fun _ _ h => h.toS), by rw [a2, h1], fun j u hj => ?_⟩
      rw [addr_add]
      simp only [World.cell?, hb]
      exact a3 j u hj
theorem run_newVar (e : TypeId) (v : Value) : (newVar e v).run P w = .ok ⟨w.heap.size, 0, none⟩ { w with heap := w.heap.push (.cells v.cells e) } := by
  simp [newVar, newRow]
theorem grown_push (c : Array Value) (e : TypeId) : Grown w { w with heap := w.heap.push (.cells c e) } c e := .of rfl rfl rfl rfl
theorem none_sound (s : Step (fun _ => False) φ φ h h w w) : Step W φ φ h h w w := s.mono (fun _ h => h.elim)

theorem mem_new (hT : Tys P T) (k : Rel A φ h w) {o : Oper} {e : TypeId} (ho : o.op = .alloc e) {ti : TI} (hti : oget T e = some ti) {v : AV} (hv : opNew h e ti.zero = some (v, h')) :
    MPost A (fun _ => False) φ h w v h' ((execOp ρ o).run P w) := by
  obtain ⟨z, hz, hza, _⟩ := (hT e ti hti).run_zero (w := w)
  obtain ⟨a1, a2⟩ := all2_get (hza A φ)
  obtain ⟨φ', s, r, e1, rfl, _⟩ := new_sound k hv (grown_push z.cells e) a1 a2
  refine ⟨.value (.pointer (some ⟨w.heap.size, 0, none⟩)), .pointer (some ⟨w.heap.size, 0, none⟩), _, φ', ?_, rfl, s, r, ⟨_, e1, rfl⟩⟩
  simp only [execOp, ho, Instr.alloc, Sem.run_bind, hz, Result.andThen_ok, run_newVar, Sem.run_pure]
theorem mem_box {o : Oper} (hE : Opnd A φ π loc st fr o.op.operands.toList ρ) (k : Rel A φ h w) {e : TypeId} {x : Operand} {y : Od} (ho : o.op = .box e x) (hy : cO π loc x = some y) {v : AV} (hv : opBox st fr h e y = some (v, h')) :
    MPost A (fun _ => False) φ h w v h' ((execOp ρ o).run P w) := by
  obtain ⟨u, hu, hv1⟩ := ob_some.1 hv
  obtain ⟨cs, hv1, ha⟩ := (hE _ (by rw [ho]; simp [Op.operands]) _ _ hy hu).cells hv1
  obtain ⟨a1, a2⟩ := all2_get ha
  obtain ⟨φ', s, r, e1, rfl, _⟩ := new_sound k hv1 (grown_push (ρ x).cells e) a1 a2
  refine ⟨.value (.pointer (some ⟨w.heap.size, 0, none⟩)), .pointer (some ⟨w.heap.size, 0, none⟩), _, φ', ?_, rfl, s, r, ⟨_, e1, rfl⟩⟩
  simp only [execOp, ho, Instr.box, Sem.run_bind, Result.andThen_ok, run_newVar, Sem.run_pure]
theorem made_sound {zs : List SV} {z : Array Value} (ha : All2 (cS A φ) zs z.toList) (h0 : zs.length ≠ 0) (n m : Nat) (hm : m = n * z.size) : All2 (cS A φ) (rep zs n) ((Array.range m).map (z[· % z.size]!)).toList := by
  subst hm
  have hl := ha.len
  simp only [Array.length_toList] at hl
  refine All2.of_get (by rw [rep_len]; simp [hl]) ?_
  intro i a b hi hb
  have hin : i < n * zs.length := by
    rcases Nat.lt_or_ge i (n * zs.length) with h | h
    · exact h
    · rw [List.getElem?_eq_none (by rw [rep_len]; omega)] at hi; cases hi
  rw [rep_get zs n i hin] at hi
  obtain ⟨v, hv, hc⟩ := ha.get _ _ hi
  rw [Array.getElem?_toList] at hv hb
  rw [hl] at hv hin
  rw [Array.getElem?_map, Array.getElem?_range] at hb
  rw [if_pos hin] at hb
  simp only [Option.map_some, Option.some.injEq] at hb
  rw [← hb, getElem!_def, hv]
  exact hc
theorem mem_bslice (hT : Tys P T) {o : Oper} (hE : Opnd A φ π loc st fr o.op.operands.toList ρ) (k : Rel A φ h w) {t : TypeId} {n : Nat} {ps : Array (Nat × Operand)} (ho : o.op = .buildSlice t n ps) {z : TypeId × TI} (hz : sliceOf T t = some z) (hn : Nat.ble (n * z.2.size) 16777216 = true)
    {l : List (Nat × Nat × Od)} (hl : cParts π loc (fun i => some (i * z.2.size, z.2.size)) ps.toList = some l) {v : AV} (hv : opBslice st fr h z.1 z.2.size (rep z.2.zero n) n l = some (v, h')) :
    MPost A (fun _ => False) φ h w v h' ((execOp ρ o).run P w) := by
  obtain ⟨k1, k2, k3⟩ := sliceOf_some hT hz
  obtain ⟨zv, hzv, hza, hzl⟩ := k2.run_zero (w := w)
  have hzs : zv.cells.size = z.2.size := by have := (hza A φ).len; simp at this; omega
  obtain ⟨cs, hcs, hv1⟩ := ob_some.1 hv
  have hble := Nat.le_of_ble_eq_true hn
  have hb := made_sound (hza A φ) (by omega) n (n * z.2.size) (by rw [hzs])
  obtain ⟨arr', h1, h2⟩ := fill_sound hE ps.toList l _ cs _ (fun p hp => by rw [ho]; simp [Op.operands]; exact ⟨p.1, by simpa using hp⟩) hl hcs hb
  obtain ⟨a1, a2⟩ := all2_get h2
  obtain ⟨φ', s, r, e1, rfl, _⟩ := new_sound k hv1 (grown_push arr' z.1) a1 a2
  have hps : (ps.map (fun x => (x.1, ρ x.2))).toList = ps.toList.map (fun p => (p.1, ρ p.2)) := by simp
  have hsz : arr'.size = n * z.2.size := by
    have l1 := h2.len
    have : ∀ (l : List (Nat × Nat × Od)) (cs cs' : List SV), fill st fr l cs = some cs' → cs'.length = cs.length := by
      intro l
      induction l with
      | nil => intro cs cs' h; cases (show some cs = some cs' from h); rfl
      | cons p l ih =>
        obtain ⟨off, m, y⟩ := p
        intro cs cs' h
        obtain ⟨v, hv1, h3⟩ := ob_some.1 (show ob (ev st fr y) (fun v => cel v (fun xs => oif (Nat.beq (llen xs) m) (ob (loverAt off xs cs) (fill st fr l)) none)) = some cs' from h)
        have : ∃ xs, oif (Nat.beq (llen xs) m) (ob (loverAt off xs cs) (fill st fr l)) none = some cs' := by
          cases v with
          | s x => exact ⟨_, h3⟩
          | agg l => exact ⟨_, h3⟩
          | _ => cases h3
        obtain ⟨xs, h4⟩ := this
        obtain ⟨_, h5⟩ := oif_some.1 h4
        obtain ⟨c1, h6, h7⟩ := ob_some.1 h5
        obtain ⟨h8, rfl⟩ := (loverAt_some _).1 h6
        rw [ih _ _ h7]
        simp; omega
    have l2 := this _ _ _ hcs
    rw [rep_len, hzl] at l2
    simp at l1
    omega
  refine ⟨.value (.slice (some ⟨w.heap.size, 0, none⟩) n n), .slice (some ⟨w.heap.size, 0, none⟩) n n, _, φ', ?_, rfl, s, r, ⟨_, _, _, e1, rfl, Nat.le_refl _, Nat.le_refl _, fun _ => rfl, .inl ⟨by simp, by simp [hsz]⟩⟩⟩
  have hgt : ¬ (n * z.2.size > 2 ^ 24) := by omega
  by_cases h0 : n * z.2.size = 0
  · have hn0 : n = 0 := by rcases Nat.mul_eq_zero.1 h0 with h | h <;> omega
    have hr0 : (Array.range (n * z.2.size)).map (zv.cells[· % zv.cells.size]!) = #[] := by rw [h0]; simp
    rw [hr0] at h1
    subst hn0
    have hgt' : ¬ (0 > 2 ^ 24) := by decide
    have hr1 : (Array.range 0).map (fun x => (#[] : Array Value)[x % (#[] : Array Value).size]!) = #[] := by simp
    simp only [execOp, ho, Instr.buildSlice, Sem.run_bind, run_underlying k1, Result.andThen_ok, k2.run_size, Nat.zero_mul, hgt', if_false, if_true, Sem.run_pure, hps, hr1, h1]
    simp [newRow]
  · simp only [execOp, ho, Instr.buildSlice, Sem.run_bind, run_underlying k1, Result.andThen_ok, k2.run_size, hgt, if_false, h0, Sem.run_pure, hps, hzv]
    rw [h1]
    simp [newRow]
theorem mem_mkslice (hT : Tys P T) {o : Oper} (hE : Opnd A φ π loc st fr o.op.operands.toList ρ) (k : Rel A φ h w) {t : TypeId} {l c : Operand} (ho : o.op = .makeSlice t l c) {z : TypeId × TI} (hz : sliceOf T t = some z)
    {l' c' : Od} (hl : cO π loc l = some l') (hc : cO π loc c = some c') {v : AV} (hv : opMkslice st fr h z.1 z.2.size z.2.bytes z.2.zero l' c' = some (v, h')) :
    MPost A (fun _ => False) φ h w v h' ((execOp ρ o).run P w) := by
  obtain ⟨k1, k2, k3⟩ := sliceOf_some hT hz
  obtain ⟨i, zv, d, q1, q2, q3, q4, hza, _, _, _, hzl⟩ := k2.ex
  have hzs : zv.cells.size = z.2.size := by have := (hza A φ).len; simp at this; omega
  obtain ⟨u, hu, hv1⟩ := ob_some.1 hv
  obtain ⟨u', hu', hv2⟩ := ob_some.1 hv1
  obtain ⟨m, rfl, hv3⟩ := inat_some hv2
  obtain ⟨n, rfl, hv4⟩ := inat_some hv3
  obtain ⟨h1, hv5⟩ := oif_some.1 hv4
  obtain ⟨h2, hv6⟩ := oif_some.1 hv5
  obtain ⟨h3, hv7⟩ := oif_some.1 hv6
  have hmn := Nat.le_of_ble_eq_true h1
  have hb : z.2.bytes * n ≤ 1000000000 := Nat.le_of_ble_eq_true h2
  have hn := Nat.le_of_ble_eq_true h3
  have e1 : ρ l = .int .i64 (m : Int) := hE _ (by rw [ho]; simp [Op.operands]) _ _ hl hu
  have e2 : ρ c = .int .i64 (n : Int) := hE _ (by rw [ho]; simp [Op.operands]) _ _ hc hu'
  have hbytes : (i.bytes : Int) * (n : Int) ≤ 281474976710656 := by
    rw [q4, ← Int.natCast_mul]; omega
  have hr := run_make (P := P) w t z.1 i zv k1 q1 q2 .i64 .i64 m n (by omega) (by omega) hbytes (by omega)
  simp only [Int.toNat_natCast] at hr
  have hm := made_sound (hza A φ) (by omega) n (n * i.size) (by rw [hzs, q3])
  obtain ⟨a1, a2⟩ := all2_get hm
  obtain ⟨φ', s, r, e3, rfl, _⟩ := new_sound k hv7 (Grown.alloc w (madeCells zv.cells (n * i.size)) z.1) a1 a2
  refine ⟨.value (.slice (some ⟨w.heap.size, 0, none⟩) m n), .slice (some ⟨w.heap.size, 0, none⟩) m n, _, φ', ?_, rfl, s, r, ⟨_, _, _, e3, rfl, Nat.le_refl _, hmn, fun _ => rfl, .inl ⟨by simp, ?_⟩⟩⟩
  · simp only [execOp, ho, e1, e2, Sem.run_bind, hr, Result.andThen_ok, Sem.run_pure]
  · simp [size_madeCells, q3]
theorem mem_load (hT : Tys P T) {o : Oper} (hE : Opnd A φ π loc st fr o.op.operands.toList ρ) (k : Rel A φ h w) {t : TypeId} {x : Operand} (ho : o.op = .load t x) {ti : TI} (hti : oget T t = some ti) (h1 : ti1 ti = true)
    {y : Od} (hy : cO π loc x = some y) {v : AV} (hv : opLoad st fr h ti.size ti.agg y = some (v, h')) :
    h' = h ∧ ∃ rv, (execOp ρ o).run P w = .ok (.value rv) w ∧ cV A φ v rv := by
  have kt := hT t ti hti
  obtain ⟨u, hu, hv1⟩ := ob_some.1 hv
  have src : ∃ b o cs v' vs, ρ x = .pointer (some ⟨b, o, none⟩) ∧ mkAV ti.agg cs = some v' ∧ ok v' h = some (v, h') ∧ All2 (cS A φ) cs vs ∧ vs.length = ti.size ∧ ∀ (j : Nat) (u : Value), vs[j]? = some u → w.cell? ⟨b, o + j, none⟩ = some u := by
    rcases sPtrC_some hv1 with ⟨b, off, rfl, hv2⟩ | ⟨cs0, rfl, hv2⟩
    · obtain ⟨cs, hcs, hv3⟩ := ob_some.1 hv2
      obtain ⟨v', hv', hv4⟩ := ob_some.1 hv3
      obtain ⟨L, hL, hρ⟩ := (show cPtr φ b off (ρ x) from hE _ (by rw [ho]; simp [Op.operands]) _ _ hy hu)
      obtain ⟨L', vs, e1, _, e2, e3, e4⟩ := rd_sound k hcs
      rw [hL] at e1
      cases e1
      exact ⟨_, _, cs, v', vs, hρ, hv', hv4, e2, e3, e4⟩
    · obtain ⟨cs, hcs, hv3⟩ := ob_some.1 hv2
      obtain ⟨v', hv', hv4⟩ := ob_some.1 hv3
      obtain ⟨b, o, c, q1, hρ, q2⟩ := (show cS A φ (.cp cs0) (ρ x) from hE _ (by rw [ho]; simp [Op.operands]) _ _ hy hu)
      obtain ⟨hl, rfl⟩ := (ltake_some _).1 hcs
      obtain ⟨vs, a1, a2, a3⟩ := cells_list (R := cD A φ.k) (cells := cs0.take ti.size) (c := c) (o := o) (fun j x hx => q2 j x (by
        rw [List.getElem?_take] at hx
        split at hx
        · exact hx
        · cases hx))
      obtain ⟨ty, hc⟩ := k.con b c q1
      refine ⟨b, o, _, v', vs, hρ, hv', hv4, a1.mono (fun _ _ h => h.toS), by rw [a2, List.length_take]; omega, fun j u hj => ?_⟩
      simp only [World.cell?, hc]
      exact a3 j u hj
  obtain ⟨b, o', cs, v', vs, hρ, hv', hv4, e2, e3, e4⟩ := src
  cases hv4
  refine ⟨rfl, ?_⟩
  rcases mkAV_some hv' with ⟨e, rfl⟩ | ⟨e, s, rfl, rfl⟩
  · refine ⟨.agg vs.toArray, ?_, vs, rfl, e2⟩
    have hl := run_loadCells_list (P := P) w ⟨b, o', none⟩ vs (fun j u hj => by rw [addr_add]; exact e4 j u hj)
    rw [e3] at hl
    simp only [execOp, ho, Instr.loadAt, Instr.sureAddr, hρ, Sem.run_bind, Sem.run_pure, Result.andThen_ok, loadVar, kt.run_agg, e, if_true, kt.run_size, hl]
  · cases e2 with
    | @cons _ rv _ rest hc _ =>
      refine ⟨rv, ?_, hc⟩
      have h4 := e4 0 rv rfl
      rw [Nat.add_zero] at h4
      simp only [execOp, ho, Instr.loadAt, Instr.sureAddr, hρ, Sem.run_bind, Sem.run_pure, Result.andThen_ok, loadVar, kt.run_agg, e, Bool.false_eq_true, if_false, run_load, h4]
theorem mem_store (hT : Tys P T) {o : Oper} (hE : Opnd A φ π loc st fr o.op.operands.toList ρ) (k : Rel A φ h w) {t : TypeId} {x y : Operand} (ho : o.op = .store t x y) {ti : TI} (hti : oget T t = some ti)
    {x' y' : Od} (hx : cO π loc x = some x') (hy : cO π loc y = some y') {v : AV} (hv : opStore st fr h ti.size x' y' = some (v, h')) :
    MPost A (clsW h (clsOf st fr (.a (.store ti.size x' y')))) φ h w v h' ((execOp ρ o).run P w) ∧ MPost A (fun n => h.lo ≤ n) φ h w v h' ((execOp ρ o).run P w) := by
  have kt := hT t ti hti
  obtain ⟨p, hp, hv1⟩ := ob_some.1 hv
  obtain ⟨u, hu, hv2⟩ := ob_some.1 hv1
  obtain ⟨b, off, rfl, hv3⟩ := sPtr_some hv2
  obtain ⟨cs, hv3, ha⟩ := (hE _ (by rw [ho]; simp [Op.operands]) _ _ hy hu).cells hv3
  obtain ⟨hl, hv4⟩ := oif_some.1 hv3
  obtain ⟨h1, hw, hv5⟩ := ob_some.1 hv4
  cases hv5
  rw [nbeq, llen_eq] at hl
  obtain ⟨L, hL, hρ⟩ := (show cPtr φ b off (ρ x) from hE _ (by rw [ho]; simp [Op.operands]) _ _ hx hp)
  obtain ⟨hlo, _⟩ := wr_some hw
  obtain ⟨L', c, ty, e1, _, e2, e3, e4⟩ := k.put hw ha
  rw [hL] at e1
  cases e1
  have hst := run_storeCells_at P L.b (L.o + off) ty (ρ y).cells.toList 0 c w e2 (by simpa using e3) (all2_one ha)
  obtain ⟨s, r⟩ := e4 _ (Changed.row e2 _)
  have hcls : clsOf st fr (.a (.store ti.size x' y')) = .app b := by
    show clOb (ob (ev st fr x') (fun v => sPtr v (fun b _ => some b))) .app = _
    rw [hp]; rfl
  have hm : MPost A (fun n => n = b) φ h w .undef h' ((execOp ρ o).run P w) := by
    refine ⟨.skip, undef, _, φ, ?_, rfl, s, r, rfl⟩
    have hsz : (ρ y).cells.size = ti.size := by have := ha.len; simp at this; omega
    simp only [execOp, ho, Instr.storeAt, Instr.sureAddr, hρ, Sem.run_bind, Sem.run_pure, Result.andThen_ok, storeVar, kt.run_size, hsz, ne_eq, not_true_eq_false, if_false, hst, Nat.add_zero]
  rw [hcls]
  exact ⟨hm, hm.mono (fun n e => by subst e; exact hlo)⟩
theorem run_app_in (t ty e : TypeId) (i : TypeInfo) (ht : P.underlying t = some (.slice e)) (hi : P.info? e = some i)
    (b off n cap : Nat) (cur : Array Value) (ety : TypeId) (hg : w.heap[b]? = some (.cells cur ety (0, 0)))
    (a : Addr) (m c : Nat) (news : List Value) (hl : news.length = m * i.size) (hnews : ∀ j u, news[j]? = some u → w.cell? (a.add j) = some u) (h1 : ∀ u ∈ news, u.oneCell' = true)
    (hroom : n + m ≤ cap) (hfit : off + n * i.size + news.length ≤ cur.size) :
    (Builtin.append_ #[t, t] ty #[.slice (some ⟨b, off, none⟩) n cap, .slice (some a) m c]).run P w =
      .ok (.slice (some ⟨b, off, none⟩) (n + m) cap) (w.setRow b (cur.toList.take (off + n * i.size) ++ news ++ cur.toList.drop (off + n * i.size + news.length)).toArray) := by
  have hf := run_firstCells_some (P := P) w i.size m a m c news hl hnews
  have hst := run_storeCells_at P b (off + n * i.size) ety news 0 cur w hg (by simpa using hfit) h1
  simp only [Nat.add_zero] at hst
  simp [Builtin.append_, run_underlying ht, sizeOf, typeInfo, hi, Builtin.lenOf, hroom, hf, addr_add, hst]
theorem run_app_zero (t ty e : TypeId) (i : TypeInfo) (ht : P.underlying t = some (.slice e)) (hi : P.info? e = some i) (A0 : Option Addr) (n cap : Nat) (hn : n ≤ cap) (B : Option Addr) (c : Nat) :
    (Builtin.append_ #[t, t] ty #[.slice A0 n cap, .slice B 0 c]).run P w = .ok (.slice A0 n cap) w := by
  have hf : (Builtin.firstCells i.size 0 (.slice B 0 c)).run P w = .ok #[] w := by
    cases B with
    | none => rfl
    | some b => simp [Builtin.firstCells, loadCells, loadCellsFrom]
  cases A0 <;> simp [Builtin.append_, run_underlying ht, sizeOf, typeInfo, hi, Builtin.lenOf, hn, hf, storeCells]
theorem exec_append {o : Oper} {args : Array Operand} {t : TypeId} (ho : o.op = .call ⟨.builtin .append, args, #[t, t]⟩) {x y : Operand} (hargs : args.toList = [x, y]) {rv : Value}
    (hr : (Builtin.append_ #[t, t] o.type #[ρ x, ρ y]).run P w = .ok rv w') : (execOp ρ o).run P w = .ok (.value rv) w' := by
  have e : args.map ρ = #[ρ x, ρ y] := by rw [← Array.toList_inj, Array.toList_map, hargs]; rfl
  simp only [execOp, ho, resolve, invoke, builtin, Sem.run_bind, Sem.run_pure, Result.andThen_ok, e, hr]
theorem changed_self {b : Nat} {c : Array Value} {ty : TypeId} (hb : w.heap[b]? = some (.cells c ty (0, 0))) {k n : Nat} (hn : n = 0) :
    Changed w w b (c.toList.take k ++ [] ++ c.toList.drop (k + n)).toArray ty := by
  subst hn
  refine ⟨rfl, rfl, rfl, rfl, fun _ _ => rfl, ?_⟩
  rw [hb]
  simp
theorem mem_app (hT : Tys P T) {o : Oper} (hE : Opnd A φ π loc st fr o.op.operands.toList ρ) (k : Rel A φ h w) {args : Array Operand} {t : TypeId} (ho : o.op = .call ⟨.builtin .append, args, #[t, t]⟩) {z : TypeId × TI} (hz : sliceOf T t = some z)
    {x y : Operand} (hargs : args.toList = [x, y]) {x' y' : Od} (hx : cO π loc x = some x') (hy : cO π loc y = some y') {v : AV} (hv : opApp st fr h z.1 z.2.size z.2.bytes x' y' = some (v, h')) :
    MPost A (fun n => match clsOf st fr (.a (.app z.1 z.2.size z.2.bytes x' y')) with | .app b => n = b | _ => False) φ h w v h' ((execOp ρ o).run P w) ∧
    MPost A (fun n => h.lo ≤ n) φ h w v h' ((execOp ρ o).run P w) := by
  obtain ⟨k1, k2, k3⟩ := sliceOf_some hT hz
  obtain ⟨i, zv, d, q1, q2, q3, q4, hza, _, _, _, hzl⟩ := k2.ex
  obtain ⟨u, hu, hv1⟩ := ob_some.1 hv
  obtain ⟨u', hu', hv2⟩ := ob_some.1 hv1
  have stay : ∀ (rv : Value), (execOp ρ o).run P w = .ok (.value rv) w → cV A φ v rv → h' = h →
      MPost A (fun n => match clsOf st fr (.a (.app z.1 z.2.size z.2.bytes x' y')) with | .app b => n = b | _ => False) φ h w v h' ((execOp ρ o).run P w) ∧ MPost A (fun n => h.lo ≤ n) φ h w v h' ((execOp ρ o).run P w) := by
    intro rv hr hcv e
    subst e
    exact ⟨⟨_, rv, w, φ, hr, rfl, Step.refl _ k rfl rfl rfl rfl, k, hcv⟩, ⟨_, rv, w, φ, hr, rfl, Step.refl _ k rfl rfl rfl rfl, k, hcv⟩⟩
  have hX := hE _ (by rw [ho]; exact mem_call (by rw [hargs]; simp)) _ _ hx hu
  have hY := hE _ (by rw [ho]; exact mem_call (by rw [hargs]; simp)) _ _ hy hu'
  have core : ∀ (m : Nat) (new : List SV) (ad' : Addr) (cap' : Nat) (news : List Value), ρ y = .slice (some ad') m cap' → All2 (cS A φ) new news → news.length = m * z.2.size → (∀ (j : Nat) (u : Value), news[j]? = some u → w.cell? (ad'.add j) = some u) →
      appTo h z.1 z.2.size z.2.bytes m u new = some (v, h') → MPost A (fun n => match clsOf st fr (.a (.app z.1 z.2.size z.2.bytes x' y')) with | .app b => n = b | _ => False) φ h w v h' ((execOp ρ o).run P w) ∧ MPost A (fun n => h.lo ≤ n) φ h w v h' ((execOp ρ o).run P w) := by
    intro m new ad' cap' news eY hnv hnl hcells hv5
    have hnl' : news.length = m * i.size := by rw [hnl, q3]
    have hone := all2_one hnv
    have hnlen := hnv.len
    rcases sSliceC_some hv5 with ⟨rfl, hv6⟩ | ⟨b, off, n, mc, ex, sz, rfl, hv6⟩ | ⟨rows, rfl, hv6⟩ | ⟨rfl, hv6⟩
    rotate_left 2
    · cases hv6
    · -- to a slice without room
      obtain ⟨adx, eX⟩ := (show cS A φ .emp (ρ x) from hX)
      cases m with
      | zero =>
        cases hv6
        refine stay (.slice (some adx) 0 0) (exec_append ho hargs ?_) ⟨adx, rfl⟩ rfl
        rw [eX, eY]
        exact run_app_zero t _ _ i k1 q1 (some adx) 0 0 (Nat.le_refl _) _ _
      | succ m =>
        obtain ⟨hb, hv7⟩ := oif_some.1 (show oif (Nat.ble (Nat.mul (m + 1) z.2.bytes) 140737488355328) (oif (Nat.ble (m + 1) 140737488355328) (nw h new z.1 (fun k h => ok (.s (.slice k 0 (m + 1) (m + 1) false z.2.size)) h)) none) none = some (v, h') from hv6)
        obtain ⟨hm, hv8⟩ := oif_some.1 hv7
        have hb' : (m + 1) * z.2.bytes ≤ 140737488355328 := Nat.le_of_ble_eq_true hb
        have hm' := Nat.le_of_ble_eq_true hm
        have hr := run_append_grow (P := P) w t o.type z.1 i zv k1 q1 q2 adx 0 0 [] (by simp) (by simp) ad' (m + 1) cap' news hnl' hcells (by omega) (by omega) (growslice_fits (by omega) (by rw [q4, Nat.zero_add]; omega))
        rw [Nat.zero_add] at hr
        have hcap := grownCap_ge w (m + 1) 0 z.1
        have hzs : zv.cells.size = z.2.size := by have := (hza A φ).len; simp at this; omega
        obtain ⟨φ', s, r, e1, rfl, _⟩ := new_sound k hv8 (Grown.drew w ([].toArray ++ news.toArray ++ Builtin.zeroCells zv.cells (grownCap w (m + 1) 0 z.1 - (m + 1))) z.1) (by simp; omega)
          (fun i sv hi => by
            obtain ⟨u, h1, h2⟩ := hnv.get i sv hi
            refine ⟨u, ?_, h2⟩
            have hlt := (List.getElem?_eq_some_iff.1 h1).1
            rw [Array.getElem?_append_left (by simpa using hlt)]
            simpa using h1)
        have fin : (execOp ρ o).run P w = .ok (.value (.slice (some ⟨w.heap.size, 0, none⟩) (m + 1) (grownCap w (m + 1) 0 z.1))) _ := exec_append ho hargs (by rw [eX, eY]; exact hr)
        have hcs : cV A φ' (.s (.slice h.next 0 (m + 1) (m + 1) false z.2.size)) (.slice (some ⟨w.heap.size, 0, none⟩) (m + 1) (grownCap w (m + 1) 0 z.1)) := by
          refine ⟨_, _, _, e1, rfl, hcap, Nat.le_refl _, (fun h => nomatch h), .inl ⟨by simp, ?_⟩⟩
          simp only [Array.size_append, List.size_toArray, List.length_nil, size_zeroCells, hnl', hzs, q3, Nat.zero_add]
          rw [← Nat.add_mul, Nat.add_sub_cancel' hcap]
          omega
        exact ⟨⟨_, _, _, φ', fin, rfl, s.mono (fun _ h => h.elim), r, hcs⟩, ⟨_, _, _, φ', fin, rfl, s.mono (fun _ h => h.elim), r, hcs⟩⟩
    · -- to a nil slice
      have eX : ρ x = .slice none 0 0 := hX
      cases m with
      | zero =>
        cases hv6
        refine stay (.slice none 0 0) (exec_append ho hargs ?_) rfl rfl
        rw [eX, eY]
        exact run_app_zero t _ _ i k1 q1 none 0 0 (Nat.le_refl _) _ _
      | succ m =>
        obtain ⟨hb, hv7⟩ := oif_some.1 (show oif (Nat.ble (Nat.mul (m + 1) z.2.bytes) 140737488355328) (oif (Nat.ble (m + 1) 140737488355328) (nw h new z.1 (fun k h => ok (.s (.slice k 0 (m + 1) (m + 1) false z.2.size)) h)) none) none = some (v, h') from hv6)
        obtain ⟨hm, hv8⟩ := oif_some.1 hv7
        have hb' : (m + 1) * z.2.bytes ≤ 140737488355328 := Nat.le_of_ble_eq_true hb
        have hm' := Nat.le_of_ble_eq_true hm
        have hr := run_append_nil (P := P) w t o.type z.1 i zv k1 q1 q2 ad' (m + 1) cap' news hnl' hcells (by omega) (by omega) (by rw [q4]; omega)
        have hcap := grownCap_ge w (m + 1) 0 z.1
        have hzs : zv.cells.size = z.2.size := by have := (hza A φ).len; simp at this; omega
        obtain ⟨φ', s, r, e1, rfl, _⟩ := new_sound k hv8 (Grown.drew w (news.toArray ++ Builtin.zeroCells zv.cells (grownCap w (m + 1) 0 z.1 - (m + 1))) z.1) (by simp; omega)
          (fun i sv hi => by
            obtain ⟨u, h1, h2⟩ := hnv.get i sv hi
            refine ⟨u, ?_, h2⟩
            have hlt := (List.getElem?_eq_some_iff.1 h1).1
            rw [Array.getElem?_append_left (by simpa using hlt)]
            simpa using h1)
        have fin : (execOp ρ o).run P w = .ok (.value (.slice (some ⟨w.heap.size, 0, none⟩) (m + 1) (grownCap w (m + 1) 0 z.1))) _ := exec_append ho hargs (by rw [eX, eY]; exact hr)
        have hcs : cV A φ' (.s (.slice h.next 0 (m + 1) (m + 1) false z.2.size)) (.slice (some ⟨w.heap.size, 0, none⟩) (m + 1) (grownCap w (m + 1) 0 z.1)) := by
          refine ⟨_, _, _, e1, rfl, hcap, Nat.le_refl _, (fun h => nomatch h), .inl ⟨by simp, ?_⟩⟩
          simp only [Array.size_append, List.size_toArray, size_zeroCells, hnl', hzs, q3]
          rw [← Nat.add_mul, Nat.add_sub_cancel' hcap]
          omega
        exact ⟨⟨_, _, _, φ', fin, rfl, s.mono (fun _ h => h.elim), r, hcs⟩, ⟨_, _, _, φ', fin, rfl, s.mono (fun _ h => h.elim), r, hcs⟩⟩
    · obtain ⟨L, ad, cap, p1, p2, p3, p4, p5, p6⟩ := (show cS A φ (.slice b off n mc ex sz) (ρ x) from hX)
      have hcls : clsOf st fr (.a (.app z.1 z.2.size z.2.bytes x' y')) = .app b := by
        show clOb (ob (ev st fr x') (fun v => sSlice v none (fun b _ _ _ _ _ => some b))) .app = _
        rw [hu]; rfl
      rw [hcls]
      obtain ⟨hsz, hv9⟩ := oif_some.1 hv6
      obtain rfl := Nat.eq_of_beq_eq_true hsz
      rw [oif_if] at hv9
      split at hv9
      · -- in place: there is room for sure
        rename_i hroom
        have hroom' : n + m ≤ mc := Nat.le_of_ble_eq_true hroom
        obtain ⟨h1, hw, hv10⟩ := ob_some.1 hv9
        cases hv10
        obtain ⟨hlo, _⟩ := wr_some hw
        obtain ⟨L', c, ty, e1, _, e2, e3, e4⟩ := k.put hw hnv
        rw [p1] at e1
        cases e1
        have e3' : L.o + (off + n * z.2.size) + news.length ≤ c.size := e3
        have fin : ∃ w', (execOp ρ o).run P w = .ok (.value (.slice (some ad) (n + m) cap)) w' ∧ Changed w w' L.b (c.toList.take (L.o + (off + n * z.2.size)) ++ news ++ c.toList.drop (L.o + (off + n * z.2.size) + news.length)).toArray ty := by
          rcases p6 with ⟨rfl, p7⟩ | p6
          · refine ⟨_, exec_append ho hargs (by rw [p2, eY]; exact run_app_in t _ _ i k1 q1 L.b (L.o + off) n cap c ty e2 ad' m cap' news hnl' hcells hone (by omega) (by rw [q3]; omega)), ?_⟩
            rw [q3, Nat.add_assoc]
            exact Changed.row e2 _
          · have hm0 : m = 0 := by omega
            have hn0 : n = 0 := by omega
            subst hm0 hn0
            have hnil : news = [] := List.eq_nil_of_length_eq_zero (by rw [hnl', Nat.zero_mul])
            refine ⟨w, exec_append ho hargs (by rw [p2, eY]; exact run_app_zero t _ _ i k1 q1 (some ad) 0 cap (by omega) _ _), ?_⟩
            rw [hnil]
            exact changed_self e2 rfl
        obtain ⟨w', fin, hch⟩ := fin
        obtain ⟨s, r⟩ := e4 w' hch
        have hcs : cV A φ (.s (.slice b off (n + m) mc ex z.2.size)) (.slice (some ad) (n + m) cap) := ⟨L, ad, cap, p1, rfl, p3, hroom', p5, p6⟩
        exact ⟨⟨_, _, w', φ, fin, rfl, s, r, hcs⟩, ⟨_, _, w', φ, fin, rfl, s.mono (fun n e => by subst e; exact hlo), r, hcs⟩⟩
      · rename_i hroom
        have hroom' : mc < n + m := by
          rcases Nat.lt_or_ge mc (n + m) with h | h
          · exact h
          · exact absurd ((nble _ _).symm ▸ h : Nat.ble (Nat.add n m) mc = true) hroom
        obtain ⟨hb, hv11⟩ := oif_some.1 (show oif (Nat.ble (Nat.mul (Nat.add n m) z.2.bytes) 140737488355328) (oif (Nat.ble (Nat.add n m) 140737488355328) (appMove h z.1 z.2.size b off n m ex new) none) none = some (v, h') from hv9)
        obtain ⟨hm, hv12⟩ := oif_some.1 hv11
        have hb' : (n + m) * z.2.bytes ≤ 140737488355328 := Nat.le_of_ble_eq_true hb
        have hm' : n + m ≤ 140737488355328 := Nat.le_of_ble_eq_true hm
        obtain ⟨ab, hab, hv13⟩ := ob_some.1 hv12
        cases ab with
        | map va es => cases hv13
        | arr cs ty =>
        obtain ⟨old, hold, hv14⟩ := ob_some.1 (show ob (ltake (Nat.mul n z.2.size) (ldrop off cs)) (fun old => Bool.rec (motive := fun _ => R)
              (oif (Nat.ble h.lo b) (oif (Nat.beq ty z.1) (nw (h.put b none) (lapp old new) z.1 (fun k h => ok (.s (.slice k 0 (Nat.add n m) (Nat.add n m) false z.2.size)) h)) none) none)
              (nw h (lapp old new) z.1 (fun k h => ok (.s (.slice k 0 (Nat.add n m) (Nat.add n m) false z.2.size)) h)) ex) = some (v, h') from hv13)
        have hrd : rd h b off (Nat.mul n z.2.size) = some old := by
          show ob (h.get b) _ = _
          rw [hab]; exact hold
        obtain ⟨L', olds, e1, hgs, hov, hol, hocells⟩ := rd_sound k hrd
        rw [p1] at e1
        cases e1
        have hol' : olds.length = n * i.size := by rw [hol, q3]; rfl
        have holen := hov.len
        have hocells' : ∀ j u, olds[j]? = some u → w.cell? (ad.add j) = some u := by
          intro j u hj
          rcases p6 with ⟨rfl, _⟩ | p6
          · rw [addr_add]; exact hocells j u hj
          · have : olds = [] := List.eq_nil_of_length_eq_zero (by rw [hol']; have : n = 0 := by omega
                                                                  rw [this, Nat.zero_mul])
            rw [this] at hj; cases hj
        have hzs : zv.cells.size = z.2.size := by have := (hza A φ).len; simp at this; omega
        rw [lapp_eq] at hv14
        have hon := hov.append hnv
        have hsm : (n + m) * i.bytes ≤ 140737488355328 := by rw [q4]; omega
        -- what comes of it when it grows
        have grow : cap < n + m → ∃ w1, Grown w w1 (olds.toArray ++ news.toArray ++ Builtin.zeroCells zv.cells (grownCap w (n + m) cap z.1 - (n + m))) z.1 ∧
            (execOp ρ o).run P w = .ok (.value (.slice (some ⟨w.heap.size, 0, none⟩) (n + m) (grownCap w (n + m) cap z.1))) w1 := by
          intro hg
          refine ⟨_, Grown.drew w _ z.1, exec_append ho hargs ?_⟩
          rw [p2, eY]
          exact run_append_grow (P := P) w t o.type z.1 i zv k1 q1 q2 ad n cap olds hol' hocells' ad' m cap' news hnl' hcells hg (by omega) (growslice_fits hg hsm)
        have hlen : (old ++ new).length = (n + m) * z.2.size := by
          rw [List.length_append, holen, hnlen, hol, hnl]; exact (Nat.add_mul _ _ _).symm
        have hget : ∀ (c : Array Value) (j : Nat) sv, (old ++ new)[j]? = some sv → ∃ u, (olds.toArray ++ news.toArray ++ c)[j]? = some u ∧ cS A φ sv u := by
          intro c j sv hj
          obtain ⟨u, h1, h2⟩ := hon.get j sv hj
          have hlt := (List.getElem?_eq_some_iff.1 h1).1
          refine ⟨u, ?_, h2⟩
          rw [Array.getElem?_append_left (by simpa using hlt)]
          rw [← List.getElem?_toArray] at h1
          simpa using h1
        have hcap := grownCap_ge w (n + m) cap z.1
        have hsize : (olds.toArray ++ news.toArray ++ Builtin.zeroCells zv.cells (grownCap w (n + m) cap z.1 - (n + m))).size = grownCap w (n + m) cap z.1 * z.2.size := by
          simp only [Array.size_append, List.size_toArray, size_zeroCells, hol', hnl', hzs, q3]
          rw [← Nat.add_mul, ← Nat.add_mul, Nat.add_sub_cancel' hcap]
        have hle : (n + m) * z.2.size ≤ grownCap w (n + m) cap z.1 * z.2.size := Nat.mul_le_mul_right _ hcap
        cases ex with
        | true =>
          have hcm := p5 rfl
          obtain ⟨w1, g, fin⟩ := grow (by omega)
          obtain ⟨φ', s, r, e1, rfl, _⟩ := new_sound k (show nw h (old ++ new) z.1 (fun k h => ok (.s (.slice k 0 (Nat.add n m) (Nat.add n m) false z.2.size)) h) = some (v, h') from hv14) g (by rw [hlen, hsize]; exact hle) (hget _)
          have hcs : cV A φ' (.s (.slice h.next 0 (n + m) (n + m) false z.2.size)) (.slice (some ⟨w.heap.size, 0, none⟩) (n + m) (grownCap w (n + m) cap z.1)) :=
            ⟨_, _, _, e1, rfl, hcap, Nat.le_refl _, (fun h => nomatch h), .inl ⟨by simp, by rw [hsize]; simp⟩⟩
          exact ⟨⟨_, _, _, φ', fin, rfl, s.mono (fun _ h => h.elim), r, hcs⟩, ⟨_, _, _, φ', fin, rfl, s.mono (fun _ h => h.elim), r, hcs⟩⟩
        | false =>
          obtain ⟨hlo, hv15⟩ := oif_some.1 (show oif (Nat.ble h.lo b) (oif (Nat.beq ty z.1) (nw (h.put b none) (old ++ new) z.1 (fun k h => ok (.s (.slice k 0 (Nat.add n m) (Nat.add n m) false z.2.size)) h)) none) none = some (v, h') from hv14)
          obtain ⟨hty, hv16⟩ := oif_some.1 hv15
          have hlo' : h.lo ≤ b := Nat.le_of_ble_eq_true hlo
          obtain rfl : ty = z.1 := Nat.eq_of_beq_eq_true hty
          by_cases hg : cap < n + m
          · obtain ⟨w1, g, fin⟩ := grow hg
            obtain ⟨s1, r1⟩ := k.kill hgs
            obtain ⟨φ', s, r, e1, rfl, _⟩ := new_sound r1 hv16 g (by rw [hlen, hsize]; exact hle) (hget _)
            rw [Hp.next_put] at e1
            have s2 := s1.trans (s.mono (V := fun n => n = b) (fun _ h => h.elim))
            have hcs : cV A φ' (.s (.slice (h.put b none).next 0 (n + m) (n + m) false z.2.size)) (.slice (some ⟨w.heap.size, 0, none⟩) (n + m) (grownCap w (n + m) cap z.1)) := by
              rw [Hp.next_put]
              exact ⟨_, _, _, e1, rfl, hcap, Nat.le_refl _, (fun h => nomatch h), .inl ⟨by simp, by rw [hsize]; simp⟩⟩
            exact ⟨⟨_, _, _, φ', fin, rfl, s2, r, hcs⟩, ⟨_, _, _, φ', fin, rfl, s2.mono (fun n e => by subst e; exact hlo'), r, hcs⟩⟩
          · -- room after all: in place
            have hcap0 : 0 < cap := by omega
            rcases p6 with ⟨rfl, p7⟩ | p6
            rotate_left
            · omega
            obtain ⟨L', c, e1, hc1, hc2, hc3, hc4⟩ := k.blk b _ hab
            rw [p1] at e1
            cases e1
            obtain ⟨hn1, hn2, hv17⟩ := nw_some hv16
            cases hv17
            rw [Hp.next_put] at hn1 hn2
            rw [Hp.hid_put] at hn2
            have hmul : (n + m) * z.2.size ≤ cap * z.2.size := Nat.mul_le_mul_right _ (by omega)
            rw [Nat.add_mul] at hmul
            have hnl2 : news.length = m * z.2.size := hnl
            have hfin := exec_append (P := P) (ρ := ρ) (w := w) (rv := .slice (some ⟨L.b, L.o + off, none⟩) (n + m) cap) ho hargs (by rw [p2, eY]; exact run_app_in t _ _ i k1 q1 L.b (L.o + off) n cap c _ hc1 ad' m cap' news hnl' hcells hone (by omega) (by rw [q3]; omega))
            rw [q3] at hfin
            obtain ⟨s, r⟩ := k.app hab p1 hc2 hn1 hn2 (Changed.row hc1 (c.toList.take (L.o + off + n * z.2.size) ++ news ++ c.toList.drop (L.o + off + n * z.2.size + news.length)).toArray) (by simp; omega) (L.o + off) (cs := old ++ new) (by rw [hlen, Nat.add_mul]; omega)
              (fun j sv hj => by
                rw [List.getElem?_append] at hj
                simp only [List.getElem?_toArray, List.append_assoc]
                split at hj
                · rename_i hlt
                  obtain ⟨u, h1, h2⟩ := hov.get j sv hj
                  refine ⟨u, ?_, h2⟩
                  have h3 := hocells j u h1
                  simp only [World.cell?, hc1] at h3
                  have hlt' : j < n * z.2.size := by rw [holen, hol] at hlt; exact hlt
                  rw [List.getElem?_append_left (by simp; omega), List.getElem?_take_of_lt (by omega)]
                  simpa using h3
                · rename_i hge
                  obtain ⟨u, h1, h2⟩ := hnv.get _ sv hj
                  refine ⟨u, ?_, h2⟩
                  have hlt := (List.getElem?_eq_some_iff.1 h1).1
                  have hge' : n * z.2.size ≤ j := by rw [holen, hol] at hge; exact Nat.le_of_not_lt hge
                  have hol2 : old.length = n * z.2.size := by rw [holen, hol]; rfl
                  rw [List.getElem?_append_right (by simp; omega), List.getElem?_append_left (by simp; omega), ← h1]
                  congr 1
                  simp
                  omega)
            have hcs : cV A (φ.add h.next ⟨L.b, L.o + off, L.lim⟩) (.s (.slice (h.put b none).next 0 (n + m) (n + m) false z.2.size)) (.slice (some ⟨L.b, L.o + off, none⟩) (n + m) cap) := by
              rw [Hp.next_put]
              exact ⟨_, _, cap, Phi.add_same _ _ _, rfl, by omega, Nat.le_refl _, (fun h => nomatch h), .inl ⟨by simp, by simp; omega⟩⟩
            exact ⟨⟨_, _, _, _, hfin, rfl, s, r, hcs⟩, ⟨_, _, _, _, hfin, rfl, s.mono (fun n e => by subst e; exact hlo'), r, hcs⟩⟩
  have nothing : ∀ (B : Option Addr) (c' : Nat), ρ y = .slice B 0 c' → sAny u (ok u h) = some (v, h') → MPost A (fun n => match clsOf st fr (.a (.app z.1 z.2.size z.2.bytes x' y')) with | .app b => n = b | _ => False) φ h w v h' ((execOp ρ o).run P w) ∧ MPost A (fun n => h.lo ≤ n) φ h w v h' ((execOp ρ o).run P w) := by
    intro B c' eY hv3
    have key : ∀ A0 n cap, ρ x = .slice A0 n cap → n ≤ cap → (execOp ρ o).run P w = .ok (.value (ρ x)) w := fun A0 n cap e hn => by
      refine exec_append ho hargs ?_
      rw [e, eY]
      exact run_app_zero t _ _ i k1 q1 A0 n cap hn B c'
    rcases sSliceC_some hv3 with ⟨rfl, hv4⟩ | ⟨b, off, n, mc, ex, sz, rfl, hv4⟩ | ⟨rows, rfl, hv4⟩ | ⟨rfl, hv4⟩
    · cases hv4
      exact stay _ (key _ _ _ (show ρ x = .slice none 0 0 from hX) (Nat.le_refl _)) hX rfl
    · cases hv4
      obtain ⟨L, ad, cap, p1, p2, p3, p4, _⟩ := (show cS A φ (.slice b off n mc ex sz) (ρ x) from hX)
      exact stay _ (key _ _ _ p2 (by omega)) hX rfl
    · cases hv4
      obtain ⟨ad, cap, p1, p2, _⟩ := lst_view (show cD A φ.k (.lst rows) (ρ x) from hX)
      exact stay _ (key _ _ _ p1 p2) hX rfl
    · cases hv4
      obtain ⟨ad, p1⟩ := (show cS A φ .emp (ρ x) from hX)
      exact stay _ (key _ _ _ p1 (Nat.le_refl _)) hX rfl
  rcases sSliceC_some hv2 with ⟨rfl, hv3⟩ | ⟨b', off', m, mc', ex', sz', rfl, hv3⟩ | ⟨rows, rfl, hv3⟩ | ⟨rfl, hv3⟩
  · exact nothing none 0 (show ρ y = .slice none 0 0 from hY) hv3
  · obtain ⟨new, hnew, hv5⟩ := ob_some.1 hv3
    obtain ⟨ad', cap', news, eY, hnv, hnl, hcells⟩ := src_sound k (show cS A φ (.slice b' off' m mc' ex' sz') (ρ y) from hY) hnew (fun e => by rw [e]; exact Nat.zero_mul _)
    exact core m new ad' cap' news eY hnv hnl hcells hv5
  · obtain ⟨new, hnew, hv5⟩ := ob_some.1 hv3
    obtain ⟨ad', cap', news, eY, hnv, hnl, hcells⟩ := flat_sound k (show cD A φ.k (.lst rows) (ρ y) from hY) hnew
    rw [llen_eq] at hv5
    exact core rows.length new ad' cap' news eY hnv hnl hcells hv5
  · obtain ⟨ad, eY⟩ := (show cS A φ .emp (ρ y) from hY)
    exact nothing (some ad) 0 eY hv3
theorem exec_builtin {o : Oper} {bi : Builtin} {args : Array Operand} {ts : Array TypeId} (ho : o.op = .call ⟨.builtin bi, args, ts⟩) :
    ∃ cs, (execOp ρ o).run P w = (builtin bi ts o.type cs (args.map ρ)).run P w := by
  simp only [execOp, ho, resolve, invoke, Sem.run_bind, Sem.run_pure, Result.andThen_ok]
  exact ⟨_, rfl⟩
theorem mem_copy (hT : Tys P T) {o : Oper} (hE : Opnd A φ π loc st fr o.op.operands.toList ρ) (k : Rel A φ h w) {args : Array Operand} {ts : Array TypeId} {t : TypeId} (ho : o.op = .call ⟨.builtin .copy, args, ts⟩) (ht : ts[0]? = some t) {z : TypeId × TI} (hz : sliceOf T t = some z)
    {x y : Operand} (hargs : args.toList = [x, y]) {x' y' : Od} (hx : cO π loc x = some x') (hy : cO π loc y = some y') {v : AV} (hv : opCopy st fr h z.2.size x' y' = some (v, h')) :
    MPost A (fun n => h.lo ≤ n) φ h w v h' ((execOp ρ o).run P w) := by
  obtain ⟨k1, k2, k3⟩ := sliceOf_some hT hz
  obtain ⟨u, hu, hv1⟩ := ob_some.1 hv
  obtain ⟨u', hu', hv2⟩ := ob_some.1 hv1
  have e : args.map ρ = #[ρ x, ρ y] := by rw [← Array.toList_inj, Array.toList_map, hargs]; rfl
  have hX := hE _ (by rw [ho]; exact mem_call (by rw [hargs]; simp)) _ _ hx hu
  have hY := hE _ (by rw [ho]; exact mem_call (by rw [hargs]; simp)) _ _ hy hu'
  have nothing : ∀ A0 n c B m c', ρ x = .slice A0 n c → ρ y = .slice B m c' → (n = 0 ∨ m = 0) → (execOp ρ o).run P w = .ok (.value (.int .i64 0)) w := by
    intro A0 n c B m c' e1 e2 h0
    have hmin : Nat.min m n = 0 := by
      show min m n = 0
      rcases h0 with rfl | rfl <;> simp
    have hf : (Builtin.firstCells z.2.size 0 (.slice B m c')).run P w = .ok #[] w := by
      cases B with
      | none => rfl
      | some b => simp [Builtin.firstCells, loadCells, loadCellsFrom]
    obtain ⟨bs, hbs⟩ := exec_builtin (P := P) (w := w) (ρ := ρ) ho
    rw [hbs, e, e1, e2]
    cases A0 <;> simp [builtin, Builtin.copy_, ht, run_underlying k1, Builtin.lenOf, hmin, k2.run_size, hf, storeCells, goInt]
  have stay : (execOp ρ o).run P w = .ok (.value (.int .i64 0)) w → ok (.s (.int .i64 0)) h = some (v, h') → MPost A (fun n => h.lo ≤ n) φ h w v h' ((execOp ρ o).run P w) := by
    intro hr hv2
    cases hv2
    exact ⟨_, _, w, φ, hr, rfl, Step.refl _ k rfl rfl rfl rfl, k, rfl⟩
  -- nothing comes: to a slice that has no room
  have from0 : ∀ A0 n c, ρ x = .slice A0 n c → n = 0 → sAny u' (ok (.s (.int .i64 0)) h) = some (v, h') → MPost A (fun n => h.lo ≤ n) φ h w v h' ((execOp ρ o).run P w) := by
    intro A0 n c eX h0 hv3
    rcases sSliceC_some hv3 with ⟨rfl, hv4⟩ | ⟨b', off', m, mc', ex', sz', rfl, hv4⟩ | ⟨rows, rfl, hv4⟩ | ⟨rfl, hv4⟩
    · exact stay (nothing _ _ _ _ _ _ eX (show ρ y = .slice none 0 0 from hY) (.inl h0)) hv4
    · obtain ⟨L, ad, cap, p1, p2, _⟩ := (show cS A φ (.slice b' off' m mc' ex' sz') (ρ y) from hY)
      exact stay (nothing _ _ _ _ _ _ eX p2 (.inl h0)) hv4
    · obtain ⟨ad, cap, p1, _⟩ := lst_view (show cD A φ.k (.lst rows) (ρ y) from hY)
      exact stay (nothing _ _ _ _ _ _ eX p1 (.inl h0)) hv4
    · obtain ⟨ad, p1⟩ := (show cS A φ .emp (ρ y) from hY)
      exact stay (nothing _ _ _ _ _ _ eX p1 (.inl h0)) hv4
  rcases sSliceC_some hv2 with ⟨rfl, hv3⟩ | ⟨b, off, n, mc, ex, sz, rfl, hv3⟩ | ⟨rows, rfl, hv3⟩ | ⟨rfl, hv3⟩
  · exact from0 _ _ _ (show ρ x = .slice none 0 0 from hX) rfl hv3
  rotate_left
  · cases hv3
  · obtain ⟨ad, eX⟩ := (show cS A φ .emp (ρ x) from hX)
    exact from0 _ _ _ eX rfl hv3
  · obtain ⟨L, ad, cap, p1, p2, p3, p4, p5, p6⟩ := (show cS A φ (.slice b off n mc ex sz) (ρ x) from hX)
    have core : ∀ (m : Nat) (ad' : Addr) (cap' : Nat) (cs : List SV) (news : List Value), ρ y = .slice (some ad') m cap' → All2 (cS A φ) cs news → news.length = Nat.min m n * z.2.size → (∀ (j : Nat) (u : Value), news[j]? = some u → w.cell? (ad'.add j) = some u) →
        ob (wr h b off cs) (fun h => ok (.s (.int .i64 (Int.ofNat (Nat.min m n)))) h) = some (v, h') → MPost A (fun n => h.lo ≤ n) φ h w v h' ((execOp ρ o).run P w) := by
      intro m ad' cap' cs news eY hnv hnl hcells hv6
      obtain ⟨h1, hw, hv7⟩ := ob_some.1 hv6
      cases hv7
      obtain ⟨hlo, _⟩ := wr_some hw
      obtain ⟨L', c, ty, e1, _, e2, e3, e4⟩ := k.put hw hnv
      rw [p1] at e1
      cases e1
      have fin : ∃ w', (execOp ρ o).run P w = .ok (.value (.int .i64 (Nat.min m n))) w' ∧ Changed w w' L.b (c.toList.take (L.o + off) ++ news ++ c.toList.drop (L.o + off + news.length)).toArray ty := by
        by_cases h0 : n = 0 ∨ m = 0
        · have hnil : news = [] := List.eq_nil_of_length_eq_zero (by rw [hnl]; show min m n * z.2.size = 0; rcases h0 with rfl | rfl <;> simp)
          have hm0 : Nat.min m n = 0 := by show min m n = 0; rcases h0 with rfl | rfl <;> simp
          refine ⟨w, ?_, by rw [hnil]; exact changed_self e2 rfl⟩
          rw [nothing _ _ _ _ _ _ p2 eY h0, hm0]; rfl
        · have had : ad = ⟨L.b, L.o + off, none⟩ := by
            rcases p6 with ⟨h, _⟩ | h
            · exact h
            · omega
          have hf := run_firstCells_some (P := P) w z.2.size (Nat.min m n) ad' m cap' news hnl hcells
          have hst := run_storeCells_at P L.b (L.o + off) ty news 0 c w e2 (by simpa using e3) (all2_one hnv)
          simp only [Nat.add_zero] at hst
          refine ⟨_, ?_, Changed.row e2 _⟩
          obtain ⟨bs, hbs⟩ := exec_builtin (P := P) (w := w) (ρ := ρ) ho
          rw [hbs, e, p2, eY]
          simp [builtin, Builtin.copy_, ht, run_underlying k1, Builtin.lenOf, k2.run_size, hf, had, hst, goInt]
      obtain ⟨w', fin, hch⟩ := fin
      obtain ⟨s, r⟩ := e4 w' hch
      exact ⟨_, _, w', φ, fin, rfl, s.mono (fun n e => by subst e; exact hlo), r, rfl⟩
    have hmin : ∀ m, oif (Nat.ble n m) n m = Nat.min m n := fun m => by
      rw [oif_if]
      show _ = min m n
      split
      · rename_i hh; rw [nble] at hh; omega
      · rename_i hh; rw [nble] at hh; omega
    rcases sSliceC_some hv3 with ⟨rfl, hv5⟩ | ⟨b', off', m, mc', ex', sz', rfl, hv5⟩ | ⟨rows, rfl, hv5⟩ | ⟨rfl, hv5⟩
    · exact stay (nothing _ _ _ _ _ _ p2 (show ρ y = .slice none 0 0 from hY) (.inr rfl)) hv5
    · obtain ⟨cs, hcs, hv6⟩ := ob_some.1 hv5
      rw [hmin] at hcs hv6
      obtain ⟨ad', cap', news, eY, hnv, hnl, hcells⟩ := src_sound k (show cS A φ (.slice b' off' m mc' ex' sz') (ρ y) from hY) hcs (fun e => by
        show min m n * z.2.size = 0
        rw [e]; simp)
      exact core m ad' cap' cs news eY hnv hnl hcells hv6
    · obtain ⟨all, hall, hv6⟩ := ob_some.1 hv5
      obtain ⟨cs, hcs, hv7⟩ := ob_some.1 hv6
      rw [llen_eq, hmin] at hcs hv7
      obtain ⟨ad', cap', news, eY, hnv, hnl, hcells⟩ := flat_sound k (show cD A φ.k (.lst rows) (ρ y) from hY) hall
      obtain ⟨hl, rfl⟩ := (ltake_some _).1 hcs
      refine core rows.length ad' cap' _ (news.take (Nat.mul (Nat.min rows.length n) z.2.size)) eY (hnv.take _) ?_ (fun j u hj => ?_) hv7
      · have := hnv.len
        rw [List.length_take]
        exact Nat.min_eq_left (by omega)
      · rw [List.getElem?_take] at hj
        split at hj
        · exact hcells j u hj
        · cases hj
    · obtain ⟨ad', p1'⟩ := (show cS A φ .emp (ρ y) from hY)
      exact stay (nothing _ _ _ _ _ _ p2 p1' (.inr rfl)) hv5
theorem mem_clear (hT : Tys P T) {o : Oper} (hE : Opnd A φ π loc st fr o.op.operands.toList ρ) (k : Rel A φ h w) {args : Array Operand} {ts : Array TypeId} {t : TypeId} (ho : o.op = .call ⟨.builtin .clear, args, ts⟩) (ht : ts[0]? = some t) {z : TypeId × TI} (hz : sliceOf T t = some z)
    {x : Operand} (hargs : args.toList = [x]) {x' : Od} (hx : cO π loc x = some x') {v : AV} (hv : opClear st fr h z.2.zero x' = some (v, h')) :
    MPost A (fun n => h.lo ≤ n) φ h w v h' ((execOp ρ o).run P w) := by
  obtain ⟨k1, k2, k3⟩ := sliceOf_some hT hz
  obtain ⟨zv, hzv, hza, hzl⟩ := k2.run_zero (w := w)
  obtain ⟨u, hu, hv1⟩ := ob_some.1 hv
  have e : args.map ρ = #[ρ x] := by rw [← Array.toList_inj, Array.toList_map, hargs]; rfl
  have hX := hE _ (by rw [ho]; exact mem_call (by rw [hargs]; simp)) _ _ hx hu
  have stay : (execOp ρ o).run P w = .ok (.value (.tuple #[])) w → ok (.tup []) h = some (v, h') → MPost A (fun n => h.lo ≤ n) φ h w v h' ((execOp ρ o).run P w) := by
    intro hr hv1
    cases hv1
    exact ⟨_, _, w, φ, hr, rfl, Step.refl _ k rfl rfl rfl rfl, k, [], rfl, .nil⟩
  rcases sSlice_some hv1 with ⟨rfl, hv2⟩ | ⟨b, off, n, mc, ex, sz, rfl, hv2⟩
  · refine stay ?_ hv2
    have eX : ρ x = .slice none 0 0 := hX
    obtain ⟨bs, hbs⟩ := exec_builtin (P := P) (w := w) (ρ := ρ) ho
    rw [hbs, e, eX]
    simp [builtin, Builtin.clear_, ht, run_underlying k1]
  · obtain ⟨L, ad, cap, p1, p2, p3, p4, p5, p6⟩ := (show cS A φ (.slice b off n mc ex sz) (ρ x) from hX)
    cases n with
    | zero =>
      refine stay ?_ hv2
      obtain ⟨bs, hbs⟩ := exec_builtin (P := P) (w := w) (ρ := ρ) ho
      rw [hbs, e, p2]
      simp [builtin, Builtin.clear_, ht, run_underlying k1]
    | succ n =>
      obtain ⟨h1, hw, hv3⟩ := ob_some.1 (show ob (wr h b off (rep z.2.zero (n + 1))) (fun h => ok (.tup []) h) = some (v, h') from hv2)
      cases hv3
      obtain ⟨hlo, _⟩ := wr_some hw
      have hm := made_sound (hza A φ) (by omega) (n + 1) _ rfl
      have hzc : (Builtin.zeroCells zv.cells (n + 1)).toList = ((Array.range ((n + 1) * zv.cells.size)).map (zv.cells[· % zv.cells.size]!)).toList := rfl
      rw [← hzc] at hm
      obtain ⟨L', c, ty, e1, _, e2, e3, e4⟩ := k.put hw hm
      rw [p1] at e1
      cases e1
      have had : ad = ⟨L.b, L.o + off, none⟩ := by
        rcases p6 with ⟨h, _⟩ | h
        · exact h
        · omega
      have hst := run_storeCells_at P L.b (L.o + off) ty (Builtin.zeroCells zv.cells (n + 1)).toList 0 c w e2 (by simpa using e3) (all2_one hm)
      simp only [Nat.add_zero] at hst
      obtain ⟨s, r⟩ := e4 _ (Changed.row e2 _)
      refine ⟨.value (.tuple #[]), .tuple #[], _, φ, ?_, rfl, s.mono (fun n e => by subst e; exact hlo), r, [], rfl, .nil⟩
      obtain ⟨bs, hbs⟩ := exec_builtin (P := P) (w := w) (ρ := ρ) ho
      rw [hbs, e, p2]
      simp [builtin, Builtin.clear_, ht, run_underlying k1, hzv, had, hst]
/-- which names an operation may change -/
theorem mem_mkmap (k : Rel A φ h w) {o : Oper} {t : TypeId} (ho : o.op = .makeMap t none) {va : Bool} {v : AV} (hv : opMkmap h va = some (v, h')) :
    MPost A (fun _ => False) φ h w v h' ((execOp ρ o).run P w) := by
  obtain ⟨h1, h2, h3⟩ := nwx_some hv
  have h4 : some (AV.s (.map h.next), h.push (.map va [])) = some (v, h') := h3
  simp only [Option.some.injEq, Prod.mk.injEq] at h4
  obtain ⟨rfl, rfl⟩ := h4
  obtain ⟨e1, e2⟩ := MapKept.heap_alloc w (.map #[] 0)
  obtain ⟨s, r⟩ := k.pushx (w' := w.alloc (.map #[] 0)) h1 h2 (x := .map va []) (L := ⟨w.heap.size, 0, 0⟩) rfl rfl rfl rfl (by show (w.heap.push (.map #[] 0)).size = _; simp) (fun b hb => e2 b hb) ⟨_, #[], 0, Phi.add_same _ _ _, e1, .nil⟩
  refine ⟨.value (.map (some w.heap.size)), .map (some w.heap.size), _, _, ?_, rfl, s, r, ⟨_, Phi.add_same _ _ _, rfl⟩⟩
  simp only [execOp, ho, Instr.makeMap, Option.map_none, Sem.run_bind, Sem.run_pure, run_newObj_alloc, Result.andThen_ok]
theorem mem_look (hT : Tys P T) {o : Oper} (hE : Opnd A φ π loc st fr o.op.operands.toList ρ) (k : Rel A φ h w) {t : TypeId} {x y : Operand} {okf : Bool} (ho : o.op = .lookup t x y okf) {z : List Bool × TI} (hz : mapOf T t = some z)
    {x' y' : Od} (hx : cO π loc x = some x') (hy : cO π loc y = some y') {v : AV} (hv : opLook st fr h z.1 z.2.agg z.2.zero okf x' y' = some (v, h')) :
    h' = h ∧ ∃ rv, (execOp ρ o).run P w = .ok (.value rv) w ∧ cV A φ v rv := by
  refine ⟨look_heap hv, ?_⟩
  obtain ⟨kt, e, dk, q1, q2, qd, q3, q4, q5⟩ := mapOf_some hT hz
  obtain ⟨m, kv, hm, hkv, h1⟩ := opLook_some hv
  have hme := hE _ (by rw [ho]; simp [Op.operands]) _ _ hx hm
  have hke := hE _ (by rw [ho]; simp [Op.operands]) _ _ hy hkv
  obtain ⟨kc, xs, h2, hkc, h3⟩ := celA_some hke h1
  obtain ⟨hl, h2⟩ := oif_some.1 h2
  rw [nbeq, llen_eq, llen_eq] at hl
  have hkg : kag kc = kag z.1 := kag_len hl
  have hsh : (kag kc = true ∧ ρ y = .agg xs.toArray) ∨ (kag kc = false ∧ xs = [ρ y]) := by
    rw [← hkg] at h3
    split at h3
    · rename_i hq; exact .inl ⟨hq, h3⟩
    · rename_i hq; exact .inr ⟨by simpa using hq, h3⟩
  have hk1 : cV1 A φ (kag kc) kc (ρ y) := by
    unfold cV1
    rcases hsh with ⟨g1, g2⟩ | ⟨g1, g2⟩
    · rw [g1, if_pos rfl]; exact ⟨xs, g2, hkc⟩
    · rw [g1]
      simp only [Bool.false_eq_true, if_false]
      subst g2
      cases hkc with | cons a b => cases b; exact ⟨_, rfl, a⟩
  have hlx := hkc.len
  have hck : ∀ em, (Instr.checkKey em 10000 kt (ρ y)).run P w = .ok () w := fun em => checkIn_sound 10000 kt z.1 q3 xs (ρ y) em (by omega) (key_shape q2 qd hl hsh)
  obtain ⟨zv, hzv, hz1⟩ := q4.run_zero1 (w := w) (A := A) (φ := φ)
  rcases lookAt_some h2 with ⟨rfl, h4⟩ | ⟨b, es, r, rfl, hg, hf, h4⟩
  · have hρ : ρ x = .map none := hme
    have hfk := findKey_ask (w := w) (P := P) (es := []) (va := true) q2 qd q3 hk1 .nil trivial (rr := none) rfl
    refine ⟨_, ?_, lookRes_sound h4 hz1⟩
    cases okf <;> simp [execOp, ho, Instr.lookup, run_underlying q1, hρ, hck, hfk, hzv]
  · obtain ⟨L, hL, hρ⟩ := (show ∃ L, φ b = some L ∧ ρ x = .map (some L.b) from hme)
    obtain ⟨L', es', clock, e1, hh, hall⟩ := k.blk b _ hg
    rw [hL] at e1
    cases e1
    obtain ⟨rr, hr, hrr⟩ := findAsking_sound (w := w) q2 qd q3 hk1 es es'.toList 0 r hall hf
    have hfk := findKey_ask q2 qd q3 hk1 hall (mfind_asks hf) hr
    have hgo := MapKept.run_getObj_map (P := P) hh
    rcases h4 with ⟨rfl, h4⟩ | ⟨vc, rfl, h4⟩
    · rcases hrr with ⟨_, rfl⟩ | ⟨vc, j, u, h5, _⟩
      · refine ⟨_, ?_, lookRes_sound h4 hz1⟩
        cases okf <;> simp [execOp, ho, Instr.lookup, run_underlying q1, hρ, hgo, hck, hfk, hzv]
      · cases h5
    · rcases hrr with ⟨h5, _⟩ | ⟨vc', j, u, h5, rfl, hu⟩
      · cases h5
      · cases h5
        refine ⟨_, ?_, lookRes_sound h4 hu⟩
        cases okf <;> simp [execOp, ho, Instr.lookup, run_underlying q1, hρ, hgo, hck, hfk]
theorem mem_mupd (hT : Tys P T) {o : Oper} (hE : Opnd A φ π loc st fr o.op.operands.toList ρ) (k : Rel A φ h w) {t : TypeId} {x y u : Operand} (ho : o.op = .mapUpdate t x y u) {z : List Bool × TI} (hz : mapOf T t = some z)
    {x' y' u' : Od} (hx : cO π loc x = some x') (hy : cO π loc y = some y') (hu : cO π loc u = some u') {v : AV} (hv : opMupd st fr h z.1 z.2.agg x' y' u' = some (v, h')) :
    MPost A (fun n => h.lo ≤ n) φ h w v h' ((execOp ρ o).run P w) := by
  obtain ⟨kt, e, dk, q1, q2, qd, q3, q4, q5⟩ := mapOf_some hT hz
  obtain ⟨m, kv, vv, hm, hkv, hvv, h1⟩ := opMupd_some hv
  have hme := hE _ (by rw [ho]; simp [Op.operands]) _ _ hx hm
  have hke := hE _ (by rw [ho]; simp [Op.operands]) _ _ hy hkv
  have hve := hE _ (by rw [ho]; simp [Op.operands]) _ _ hu hvv
  obtain ⟨kc, xs, h2, hkc, h3⟩ := celA_some hke h1
  obtain ⟨hl, h2⟩ := oif_some.1 h2
  rw [nbeq, llen_eq, llen_eq] at hl
  have hkg : kag kc = kag z.1 := kag_len hl
  have hsh : (kag kc = true ∧ ρ y = .agg xs.toArray) ∨ (kag kc = false ∧ xs = [ρ y]) := by
    rw [← hkg] at h3
    split at h3
    · rename_i hq; exact .inl ⟨hq, h3⟩
    · rename_i hq; exact .inr ⟨by simpa using hq, h3⟩
  obtain ⟨vc, ys, h4, hvc, h5⟩ := celA_some hve h2
  have hk1 : cV1 A φ (kag kc) kc (ρ y) := by
    unfold cV1
    rcases hsh with ⟨g1, g2⟩ | ⟨g1, g2⟩
    · rw [g1, if_pos rfl]; exact ⟨xs, g2, hkc⟩
    · rw [g1]
      simp only [Bool.false_eq_true, if_false]
      subst g2
      cases hkc with | cons a b => cases b; exact ⟨_, rfl, a⟩
  have hv1 : cV1 A φ z.2.agg vc (ρ u) := by
    unfold cV1
    split
    · rename_i hp; rw [if_pos hp] at h5; exact ⟨ys, h5, hvc⟩
    · rename_i hp
      rw [if_neg hp] at h5
      subst h5
      cases hvc with | cons a b => cases b; exact ⟨_, rfl, a⟩
  have hlx := hkc.len
  have hck : (Instr.checkKey false 10000 kt (ρ y)).run P w = .ok () w := checkIn_sound 10000 kt z.1 q3 xs (ρ y) false (by omega) (key_shape q2 qd hl hsh)
  obtain ⟨b, es, es2, rfl, hlo, hg, hset, rfl, rfl⟩ := mupdAt_some h4
  obtain ⟨L, hL, hρ⟩ := (show ∃ L, φ b = some L ∧ ρ x = .map (some L.b) from hme)
  obtain ⟨L', es', clock, e1, hh, hall⟩ := k.blk b _ hg
  rw [hL] at e1
  cases e1
  have hgo := MapKept.run_getObj_map (P := P) hh
  have fin : ∀ (es3 : Array MapEntry) (clock' : Nat), All2 (keyV A φ z.2.agg) es2 es3.toList → (execOp ρ o).run P w = .ok .skip { w with heap := w.heap.setIfInBounds L.b (.map es3 clock') } →
      MPost A (fun n => h.lo ≤ n) φ h w .undef (h.put b (some (.map z.2.agg es2))) ((execOp ρ o).run P w) := by
    intro es3 clock' ha hr
    obtain ⟨g1, g2⟩ := MapKept.heap_set (o' := .map es3 clock') hh
    obtain ⟨s, r⟩ := k.putx (w' := { w with heap := w.heap.setIfInBounds L.b (.map es3 clock') }) (x := .map z.2.agg es2) hg hL rfl rfl rfl (by simp) (fun p hp => g2 p hp) ⟨L, es3, clock', hL, g1, ha⟩
    exact ⟨.skip, undef, _, φ, hr, rfl, s.mono (fun n e => by subst e; exact hlo), r, rfl⟩
  rcases mset_sound (w := w) q2 qd q3 hk1 hv1 es es'.toList 0 es2 hall hset with ⟨hr, ha⟩ | ⟨j, e', hr, hj, hkey, ⟨ds, hds⟩, ha⟩
  · have hfk := findKey_ask q2 qd q3 hk1 hall (mset_asks hset) hr
    refine fin (es'.push { key := ρ y, val := ρ u, born := clock }) (clock + 1) (by simpa using ha clock) ?_
    have hso := MapKept.run_setObj_map (P := P) (.map (es'.push { key := ρ y, val := ρ u, born := clock }) (clock + 1)) hh
    simp [execOp, ho, Instr.mapUpdate, run_underlying q1, hρ, hgo, hck, hfk, hso]
  · rw [Nat.zero_add] at hr
    have hfk := findKey_ask q2 qd q3 hk1 hall (mset_asks hset) hr
    have hst := stays_sound (P := P) (w := w) hk1 hds
    have hj' : es'[j]? = some e' := by rw [← Array.getElem?_toList]; exact hj
    refine fin (es'.modify j fun e => { e with key := ρ y, val := ρ u }) clock (by rw [modify_set _ _ _ _ hj]; exact ha) ?_
    have hso := MapKept.run_setObj_map (P := P) (.map (es'.modify j fun e => { e with key := ρ y, val := ρ u }) clock) hh
    simp [execOp, ho, Instr.mapUpdate, run_underlying q1, hρ, hgo, hck, hfk, hj', hkey, hst, hso]
theorem isPtrT_some (hT : Tys P T) {t : TypeId} (h : isPtrT T t = true) : ∃ e i, P.underlying t = some (.pointer e) ∧ P.info? e = some i ∧ i.size ≠ 0 := by
  unfold isPtrT at h
  split at h
  · rename_i ti hti
    split at h
    · rename_i e he
      split at h
      · rename_i z hz
        obtain ⟨d, h1, h2⟩ := (hT t ti hti).und
        rw [he] at h2
        obtain ⟨i, _, _, h3, _, h4, _⟩ := (hT e z hz).ex
        refine ⟨e, i, h1.trans (congrArg some h2), h3, ?_⟩
        rw [h4]
        intro e0
        rw [e0] at h
        cases h
      · cases h
    · cases h
  · cases h
theorem oif_true {b c : Bool} : oif b c false = true ↔ b = true ∧ c = true := by cases b <;> cases c <;> decide
theorem equalIn_pnil {t e : TypeId} (hu : P.underlying t = some (.pointer e)) (b : Option Addr) : (Op.equal t (.pointer none) (.pointer b)).run P w = .ok b.isNone w := by
  show (Op.equalIn (9999 + 1) t (.pointer none) (.pointer b)).run P w = _
  unfold Op.equalIn
  simp only [Sem.run_bind, run_underlying hu, Result.andThen_ok]
  cases b <;> rfl
theorem equalIn_pnil' {t e : TypeId} (hu : P.underlying t = some (.pointer e)) (a : Addr) : (Op.equal t (.pointer (some a)) (.pointer none)).run P w = .ok false w := by
  show (Op.equalIn (9999 + 1) t (.pointer (some a)) (.pointer none)).run P w = _
  unfold Op.equalIn
  simp only [Sem.run_bind, run_underlying hu, Result.andThen_ok]
  rfl
theorem eqGuard_ptr (op : BinOp) (t : TypeId) (x y : Operand) (a b : Option Addr) : (eqGuard op t x y (.pointer a) (.pointer b)).run P w = .ok () w := by
  cases op <;> rfl
theorem peqB_sound (k : Rel A φ h w) {t e : TypeId} {i : TypeInfo} (hu : P.underlying t = some (.pointer e)) (hi : P.info? e = some i) (hs : i.size ≠ 0) {a b : SV} {r : Bool} (hv : peqB h a b = some r)
    {x y : Value} (hx : cS A φ a x) (hy : cS A φ b y) : ∃ p q, x = .pointer p ∧ y = .pointer q ∧ (Op.equal t x y).run P w = .ok r w := by
  cases a with
  | nilPtr =>
    cases b with
    | nilPtr =>
      cases hv; cases hx; cases hy
      exact ⟨_, _, rfl, rfl, equalIn_pnil hu none⟩
    | ptr m j =>
      cases hv; cases hx
      obtain ⟨L, _, rfl⟩ := (show cPtr φ m j y from hy)
      exact ⟨_, _, rfl, rfl, equalIn_pnil hu _⟩
    | _ => cases hv
  | ptr n o =>
    obtain ⟨L, hL, rfl⟩ := (show cPtr φ n o x from hx)
    cases b with
    | nilPtr =>
      cases hv; cases hy
      exact ⟨_, _, rfl, rfl, equalIn_pnil' hu _⟩
    | ptr m j =>
      obtain ⟨M, hM, rfl⟩ := (show cPtr φ m j y from hy)
      refine ⟨_, _, rfl, rfl, ?_⟩
      have fin : ∀ c : Bool, (Go.binOp .eql t (.pointer (some ⟨L.b, L.o + o, none⟩)) (.pointer (some ⟨M.b, M.o + j, none⟩))).run P w = .ok (.bool c) w → (Op.equal t (.pointer (some ⟨L.b, L.o + o, none⟩)) (.pointer (some ⟨M.b, M.o + j, none⟩))).run P w = .ok c w := by
        intro c hc
        simp only [Go.binOp, Sem.run_bind] at hc
        cases he : (Op.equal t (.pointer (some ⟨L.b, L.o + o, none⟩)) (.pointer (some ⟨M.b, M.o + j, none⟩))).run P w with
        | ok e1 w1 =>
          rw [he] at hc
          simp at hc
          obtain ⟨rfl, rfl⟩ := hc
          rfl
        | _ => rw [he] at hc; simp at hc
      have hv' : oif (oif (Nat.beq n m) (Nat.beq o j) false) (some true) (ob (h.get n) (fun x => ob (h.get m) (fun y => AB.casesOn (motive := fun _ => Option Bool) x (fun _ _ => AB.casesOn (motive := fun _ => Option Bool) y (fun _ _ => some false) (fun _ _ => none)) (fun _ _ => none)))) = some r := hv
      rw [oif_if] at hv'
      split at hv'
      · rename_i hnm
        obtain ⟨h1, h2⟩ := oif_true.1 hnm
        obtain rfl := Nat.eq_of_beq_eq_true h1
        obtain rfl := Nat.eq_of_beq_eq_true h2
        cases hv'
        rw [hL] at hM
        cases hM
        exact fin _ (run_eql_ptr_same w _ hu hi)
      · rename_i hnm
        obtain ⟨X, hX, h1⟩ := ob_some.1 hv'
        obtain ⟨Y, hY, h2⟩ := ob_some.1 h1
        cases X with
        | map _ _ => cases h2
        | arr cs ty =>
        cases Y with
        | map _ _ => cases h2
        | arr ds ty' =>
        cases h2
        obtain ⟨L', c, e1, e2, _⟩ := k.blk n _ hX
        obtain ⟨M', c', e3, e4, _⟩ := k.blk m _ hY
        rw [hL] at e1; cases e1
        rw [hM] at e3; cases e3
        refine fin _ (run_eql_ptr_other w hu hi hs ?_ e2 e4)
        intro e
        have hb : L.b = M.b := by injection e
        have := k.inj n m L M (by rw [hX]; rfl) (by rw [hY]; rfl) hL hM hb
        subst this
        rw [hL] at hM
        cases hM
        have ho : L.o + o = L.o + j := by injection e
        have : o = j := by omega
        subst this
        exact hnm (oif_true.2 ⟨Nat.beq_refl _, Nat.beq_refl _⟩)
    | _ => cases hv
  | _ => cases hv
theorem opPeq_some {neg : Bool} {x y : Od} {v : AV} (hv : opPeq st fr h neg x y = some (v, h')) : h' = h ∧ ∃ a b e, ev st fr x = some (.s a) ∧ ev st fr y = some (.s b) ∧ peqB h a b = some e ∧ v = .s (.bool (oif neg (bnot e) e)) := by
  obtain ⟨a, ha, h1⟩ := ob_some.1 hv
  obtain ⟨b, hb, h2⟩ := ob_some.1 h1
  cases a with
  | s a => cases b with
    | s b =>
      obtain ⟨e, he, h3⟩ := ob_some.1 (show ob (peqB h a b) (fun e => ok (.s (.bool (oif neg (bnot e) e))) h) = some (v, h') from h2)
      cases h3
      exact ⟨rfl, a, b, e, ha, hb, he, rfl⟩
    | _ => cases h2
  | _ => cases h2
theorem mem_peq (hT : Tys P T) {o : Oper} (hE : Opnd A φ π loc st fr o.op.operands.toList ρ) (k : Rel A φ h w) {op : BinOp} {t : TypeId} {x y : Operand} {yt : TypeId} (ho : o.op = .binOp op t x y yt) (ht : isPtrT T t = true) {neg : Bool} (hop : isEq op = some neg)
    {x' y' : Od} (hx : cO π loc x = some x') (hy : cO π loc y = some y') {v : AV} (hv : opPeq st fr h neg x' y' = some (v, h')) :
    h' = h ∧ ∃ rv, (execOp ρ o).run P w = .ok (.value rv) w ∧ cV A φ v rv := by
  obtain ⟨rfl, a, b, e, ha, hb, he, rfl⟩ := opPeq_some hv
  refine ⟨rfl, ?_⟩
  obtain ⟨et, i, q1, q2, q3⟩ := isPtrT_some hT ht
  have hxe : cS A φ a (ρ x) := hE _ (by rw [ho]; simp [Op.operands]) _ _ hx ha
  have hye : cS A φ b (ρ y) := hE _ (by rw [ho]; simp [Op.operands]) _ _ hy hb
  obtain ⟨p, q, e1, e2, e3⟩ := peqB_sound k q1 q2 q3 he hxe hye
  have hg := eqGuard_ptr (P := P) (w := w) op t x y p q
  rw [e1, e2] at e3
  rcases isEq_some hop with ⟨rfl, rfl⟩ | ⟨rfl, rfl⟩
  · exact ⟨.bool e, by simp only [execOp, ho, e1, e2, Sem.run_bind, hg, Result.andThen_ok, Go.binOp]; simp [e3], rfl⟩
  · exact ⟨.bool (!e), by simp only [execOp, ho, e1, e2, Sem.run_bind, hg, Result.andThen_ok, Go.binOp]; simp [e3], by cases e <;> rfl⟩
theorem rowsN_all {sz : Nat} : ∀ {n : Nat} {l : List SV} {rows : List (List SV)}, rowsN sz n l = some rows → rows.length = n ∧ (∀ (i : Nat) (row : List SV), rows[i]? = some row → row.length = sz) ∧ ∀ (i j : Nat) (row : List SV) (x : SV), rows[i]? = some row → row[j]? = some x → l[i * sz + j]? = some x
  | 0, l, rows, h => by
    cases h
    exact ⟨rfl, fun i row h => by simp at h, fun i j row x h => by simp at h⟩
  | n + 1, l, rows, h => by
    obtain ⟨a, h1, h2⟩ := ob_some.1 (show ob (ltake sz l) (fun a => ob (rowsN sz n (ldrop sz l)) (fun r => some (a :: r))) = some rows from h)
    obtain ⟨r, h3, h4⟩ := ob_some.1 h2
    cases h4
    obtain ⟨h5, h6⟩ := (ltake_some _).1 h1
    obtain ⟨i1, i2, i3⟩ := rowsN_all h3
    have ha : a.length = sz := by rw [h6, List.length_take]; omega
    refine ⟨by simp [i1], fun i row hr => ?_, fun i j row x hr hx => ?_⟩
    · cases i with
      | zero => simp at hr; subst hr; exact ha
      | succ i => exact i2 i row (by simpa using hr)
    · cases i with
      | zero =>
        simp at hr; subst hr
        rw [Nat.zero_mul, Nat.zero_add]
        rw [h6] at hx
        obtain ⟨q1, q2⟩ := List.getElem?_eq_some_iff.1 hx
        rw [List.getElem_take] at q2
        rw [← q2]
        exact List.getElem?_eq_getElem _
      | succ i =>
        have := i3 i j row x (by simpa using hr) hx
        rw [ldrop_eq, List.getElem?_drop] at this
        rw [Nat.succ_mul]
        rw [show i * sz + sz + j = sz + (i * sz + j) by omega]
        exact this
theorem mem_slicea (hT : Tys P T) {o : Oper} (hE : Opnd A φ π loc st fr o.op.operands.toList ρ) (k : Rel A φ h w) {t : TypeId} {x : Operand} (ho : o.op = .slice t x none none none) {z : Nat × TI} (hz : arrayOf T t = some z)
    {x' : Od} (hx : cO π loc x = some x') {v : AV} (hv : opSlicea st fr h z.1 z.2.size x' = some (v, h')) :
    MPost A (fun _ => False) φ h w v h' ((execOp ρ o).run P w) := by
  obtain ⟨e, q1, q2, q3⟩ := arrayOf_some hT hz
  obtain ⟨u, hu, hv1⟩ := ob_some.1 hv
  have e0 : ∀ a : Addr, (if z.1 = 0 then a else a.add (0 * z.2.size)) = a := by
    intro a
    split
    · rfl
    · rw [Nat.zero_mul]; unfold Addr.add; simp
  rcases sPtrC_some hv1 with ⟨b, off, rfl, hv2⟩ | ⟨cells, rfl, hv2⟩
  · obtain ⟨xs, hxs, hv3⟩ := ob_some.1 hv2
    have hv4 : some (AV.s (.slice b off z.1 z.1 true z.2.size), h) = some (v, h') := hv3
    simp only [Option.some.injEq, Prod.mk.injEq] at hv4
    obtain ⟨rfl, rfl⟩ := hv4
    obtain ⟨L, hL, hρ⟩ := (show cPtr φ b off (ρ x) from hE _ (by rw [ho]; simp [Op.operands]) _ _ hx hu)
    obtain ⟨cs, ty, hg, rfl, hl⟩ := rd_some hxs
    obtain ⟨L', c, e1, h3, h4, h5, h6⟩ := k.blk b _ hg
    rw [hL] at e1
    cases e1
    have hfit : L.o + off + z.1 * z.2.size ≤ L.lim ∨ z.1 * z.2.size = 0 := by
      have hl' : Nat.mul z.1 z.2.size = z.1 * z.2.size := rfl
      rw [hl'] at hl
      simp at hl
      omega
    refine ⟨.value (.slice (some ⟨L.b, L.o + off, none⟩) z.1 z.1), .slice (some ⟨L.b, L.o + off, none⟩) z.1 z.1, w, φ, ?_, rfl, Step.refl _ k rfl rfl rfl rfl, k, ⟨L, _, z.1, hL, rfl, Nat.le_refl _, Nat.le_refl _, fun _ => rfl, ?_⟩⟩
    · simp [execOp, ho, Instr.sliceAt, Instr.sureAddr, run_underlying q1, Instr.sliceBounds, hρ, q2.run_size, Addr.add]
    · rcases hfit with h7 | h7
      · exact .inl ⟨rfl, h7⟩
      · exact .inr (by
          rcases Nat.mul_eq_zero.1 h7 with h8 | h8
          · exact h8
          · exact absurd h8 q3)
  · obtain ⟨rows, hr, hv3⟩ := ob_some.1 hv2
    cases hv3
    obtain ⟨b, o', cs, hk, hρ, hcs⟩ := (show ∃ b o cs, φ.k b = some cs ∧ ρ x = .pointer (some ⟨b, o, none⟩) ∧ ∀ (j : Nat) (x : SV), cells[j]? = some x → ∃ u, cs[o + j]? = some u ∧ cD A φ.k x u from hE _ (by rw [ho]; simp [Op.operands]) _ _ hx hu)
    obtain ⟨r1, r2, r3⟩ := rowsN_all hr
    have hcD : cD A φ.k (.lst rows) (.slice (some ⟨b, o', none⟩) rows.length z.1) :=
      .lst rows b o' z.1 z.2.size cs (fun i j => (cs[o' + i * z.2.size + j]?).getD (.bool false)) hk (by omega) r2
        (fun i j row y h1 h2 => by
          obtain ⟨u, h3, _⟩ := hcs _ _ (r3 i j row y h1 h2)
          rw [← Nat.add_assoc] at h3
          rw [h3]; rfl)
        (fun i j row y h1 h2 => by
          obtain ⟨u, h3, h4⟩ := hcs _ _ (r3 i j row y h1 h2)
          rw [← Nat.add_assoc] at h3
          simp only [h3, Option.getD_some]
          exact h4)
    rw [r1] at hcD
    refine ⟨.value (.slice (some ⟨b, o', none⟩) z.1 z.1), .slice (some ⟨b, o', none⟩) z.1 z.1, w, φ, ?_, rfl, Step.refl _ k rfl rfl rfl rfl, k, hcD⟩
    simp [execOp, ho, Instr.sliceAt, Instr.sureAddr, run_underlying q1, Instr.sliceBounds, hρ, q2.run_size, Addr.add]
theorem vStr_some {β : Type} {v : SV} {f : List UInt8 → Option β} {r : β} (h : vStr v f = some r) : ∃ l, v = .str l ∧ f l = some r := by
  cases v <;> first | exact ⟨_, rfl, h⟩ | cases h
theorem eqU8_eq : ∀ (l r : List UInt8), eqU8 l r = (l == r)
  | [], [] => rfl
  | [], _ :: _ => rfl
  | _ :: _, [] => rfl
  | a :: l, b :: r => by
    show oif (Nat.beq a.toNat b.toNat) (eqU8 l r) false = _
    rw [eqU8_eq l r]
    by_cases e : a = b
    · subst e
      rw [Nat.beq_refl]
      show (l == r) = _
      simp
    · have e' : Nat.beq a.toNat b.toNat = false := by
        cases h : Nat.beq a.toNat b.toNat with
        | false => rfl
        | true => exact absurd (UInt8.toNat_inj.1 (Nat.eq_of_beq_eq_true h)) e
      rw [e']
      show false = _
      simp [e]
theorem celB_some : ∀ {l : List SV} {b : List UInt8}, celB l = some b → ∃ ns : List Int, l = ns.map (SV.int .u8) ∧ b = ns.map (fun n => UInt8.ofNat n.toNat)
  | [], b, h => by cases h; exact ⟨[], rfl, rfl⟩
  | a :: l, b, h => by
    obtain ⟨k, n, rfl, h1⟩ := vInt_some (show vInt a (fun k n => oif (Nat.beq (ikn k) 4) (ob (celB l) (fun l => some (UInt8.ofNat (Int.toNat n) :: l))) none) = some b from h)
    obtain ⟨h2, h3⟩ := oif_some.1 h1
    obtain ⟨c, h4, h5⟩ := ob_some.1 h3
    obtain ⟨ns, rfl, rfl⟩ := celB_some h4
    cases h5
    obtain rfl : k = .u8 := by cases k <;> first | rfl | cases h2
    exact ⟨n :: ns, rfl, rfl⟩
theorem all2_u8 : ∀ {ns : List Int} {news : List Value}, All2 (cS A φ) (ns.map (SV.int .u8)) news → news = ns.map (Value.int .u8)
  | [], _, .nil => rfl
  | n :: ns, _, .cons h t => by rw [all2_u8 t]; cases (show _ = Value.int .u8 n from h); rfl
theorem str1_some {β : Type} {x : Od} {f : List UInt8 → Option β} {r : β} (h : ob (ev st fr x) (fun a => svc none a (fun a => vStr a f)) = some r) : ∃ l, ev st fr x = some (.s (.str l)) ∧ f l = some r := by
  obtain ⟨a, ha, h1⟩ := ob_some.1 h
  rcases svc_some h1 with ⟨s, rfl, h2⟩ | ⟨_, h2⟩
  · obtain ⟨l, rfl, h3⟩ := vStr_some h2
    exact ⟨l, ha, h3⟩
  · cases h2
theorem str2_some {β : Type} {x y : Od} {f : List UInt8 → List UInt8 → Option β} {r : β} (h : ob (ev st fr x) (fun a => ob (ev st fr y) (fun b => svc none a (fun a => svc none b (fun b => vStr a (fun l => vStr b (fun q => f l q)))))) = some r) : ∃ l q, ev st fr x = some (.s (.str l)) ∧ ev st fr y = some (.s (.str q)) ∧ f l q = some r := by
  obtain ⟨a, ha, h1⟩ := ob_some.1 h
  obtain ⟨b, hb, h2⟩ := ob_some.1 h1
  rcases svc_some h2 with ⟨s, rfl, h3⟩ | ⟨_, h3⟩
  · rcases svc_some h3 with ⟨t, rfl, h4⟩ | ⟨_, h4⟩
    · obtain ⟨l, rfl, h5⟩ := vStr_some h4
      obtain ⟨q, rfl, h6⟩ := vStr_some h5
      exact ⟨l, q, ha, hb, h6⟩
    · cases h4
  · cases h3
theorem vIfc_some {β : Type} {v : SV} {f : Bool → Option β} {r : β} (h : vIfc v f = some r) : ∃ b, v = .ifc b ∧ f b = some r := by
  cases v <;> first | exact ⟨_, rfl, h⟩ | cases h
theorem ifcEq_some {neg : Bool} {x y : Od} {v : AV} (hv : ifcEq st fr h neg x y = some (v, h')) : h' = h ∧ ∃ p q, ev st fr x = some (.s (.ifc p)) ∧ ev st fr y = some (.s (.ifc q)) ∧ ¬ (p = true ∧ q = true) ∧ v = .s (.bool (if p = q then !neg else neg)) := by
  obtain ⟨a, ha, h1⟩ := ob_some.1 hv
  obtain ⟨b, hb, h2⟩ := ob_some.1 h1
  rcases svc_some h2 with ⟨s, rfl, h3⟩ | ⟨_, h3⟩
  · rcases svc_some h3 with ⟨t, rfl, h4⟩ | ⟨_, h4⟩
    · obtain ⟨p, rfl, h5⟩ := vIfc_some h4
      obtain ⟨q, rfl, h6⟩ := vIfc_some h5
      cases p <;> cases q <;> cases neg <;> first | (cases h6; exact ⟨rfl, _, _, ha, hb, by simp, rfl⟩) | (cases h6; done)
    · cases h4
  · cases h3
theorem opStrop_heap {n : Nat} {x y : Od} {v : AV} (hv : opStrop st fr h n x y = some (v, h')) : h' = h := by
  match n, hv with
  | 0, hv =>
    obtain ⟨a, ha, h1⟩ := ob_some.1 (show ob (ev st fr x) (fun v => ob (strB v) (fun l => ok (.s (.str l)) h)) = some (v, h') from hv)
    obtain ⟨l, hl, h2⟩ := ob_some.1 h1
    cases h2; rfl
  | 1, hv => obtain ⟨_, _, _, _, h6⟩ := str2_some (show strEq st fr h false x y = some (v, h') from hv); cases h6; rfl
  | 2, hv => obtain ⟨_, _, _, _, h6⟩ := str2_some (show strEq st fr h true x y = some (v, h') from hv); cases h6; rfl
  | 3, hv =>
    obtain ⟨_, _, h6⟩ := str1_some (show strLen st fr h x = some (v, h') from hv)
    obtain ⟨_, h7⟩ := oif_some.1 h6
    cases h7; rfl
  | 4, hv =>
    obtain ⟨_, _, _, _, h6⟩ := str2_some (show strCat st fr h x y = some (v, h') from hv)
    obtain ⟨_, h7⟩ := oif_some.1 h6
    cases h7; rfl
  | 5, hv => exact (ifcEq_some (show ifcEq st fr h false x y = some (v, h') from hv)).1
  | n + 6, hv => exact (ifcEq_some (show ifcEq st fr h true x y = some (v, h') from hv)).1
theorem isBytesT_some (hT : Tys P T) {t : TypeId} (h : isBytesT T t = true) : ∃ e, P.underlying t = some (.slice e) ∧ P.underlying e = some (.int .u8) := by
  unfold isBytesT at h
  split at h
  · rename_i z hz
    obtain ⟨h1, h2, _⟩ := sliceOf_some hT hz
    split at h
    · rename_i k hk
      obtain ⟨d, h3, h4⟩ := h2.und
      rw [hk] at h4
      obtain rfl : k = .u8 := by cases k <;> first | rfl | cases h
      exact ⟨_, h1, h3.trans (congrArg some h4)⟩
    · cases h
  · cases h
theorem mem_bstr (hT : Tys P T) {o : Oper} (hE : Opnd A φ π loc st fr o.op.operands.toList ρ) (k : Rel A φ h w) {s d : TypeId} {x : Operand} (ho : o.op = .convert s d x) (hs : isBytesT T s = true) (hd : P.underlying d = some .string)
    {x' y' : Od} (hx : cO π loc x = some x') {v : AV} (hv : opStrop st fr h 0 x' y' = some (v, h')) :
    ∃ rv, (execOp ρ o).run P w = .ok (.value rv) w ∧ cV A φ v rv := by
  obtain ⟨e, q1, q2⟩ := isBytesT_some hT hs
  obtain ⟨a, ha, h1⟩ := ob_some.1 (show ob (ev st fr x') (fun v => ob (strB v) (fun l => ok (.s (.str l)) h)) = some (v, h') from hv)
  obtain ⟨l, hl, h2⟩ := ob_some.1 h1
  cases h2
  have hX : cV A φ a (ρ x) := hE _ (by rw [ho]; simp [Op.operands]) _ _ hx ha
  have run : ∀ r, (convert s d (ρ x)).run P w = .ok r w → (execOp ρ o).run P w = .ok (.value r) w := fun r hr => by simp [execOp, ho, hr]
  have hz : l = [] → ∀ ad, ρ x = .slice ad 0 0 ∨ (∃ c, ρ x = .slice ad 0 c) → (convert s d (ρ x)).run P w = .ok (.string ⟨l.toArray⟩) w := by
    rintro rfl ad hr
    have : ∃ c, ρ x = .slice ad 0 c := hr.elim (fun h => ⟨_, h⟩) id
    obtain ⟨c, hr⟩ := this
    rw [hr]
    cases ad with
    | none => rw [run_convert_bytes_nil w s e q1 q2 0 c d hd]; rfl
    | some ad =>
      rw [run_convert_bytes_string w s d e (some ad) 0 c q1 q2 hd, run_bytesToString w ad 0 c [] (by
        have := run_loadCells_list (P := P) w ad [] (fun j v hj => by cases hj)
        simpa using this)]
      rfl
  unfold strB at hl
  cases a with
  | s sv =>
    cases sv with
    | nilSlice =>
      cases hl
      have hX' : ρ x = .slice none 0 0 := hX
      exact ⟨_, run _ (hz rfl none (.inl hX')), rfl⟩
    | emp =>
      cases hl
      obtain ⟨ad, hX'⟩ := (show ∃ ad, ρ x = .slice (some ad) 0 0 from hX)
      exact ⟨_, run _ (hz rfl (some ad) (.inl hX')), rfl⟩
    | lst rows =>
      obtain ⟨xs, hxs, hl2⟩ := ob_some.1 (show ob (flat 1 rows) celB = some l from hl)
      obtain ⟨ns, rfl, rfl⟩ := celB_some hl2
      obtain ⟨ad, cap, news, eX, hnv, hnl, hcells⟩ := flat_sound k (show cD A φ.k (.lst rows) (ρ x) from hX) hxs
      have hn := all2_u8 hnv
      have hl2 := run_loadCells_list (P := P) w ad news hcells
      rw [hnl, Nat.mul_one, hn] at hl2
      refine ⟨_, run (.string ⟨(ns.map (fun n : Int => UInt8.ofNat n.toNat)).toArray⟩) ?_, rfl⟩
      rw [eX, run_convert_bytes_string w s d e (some ad) rows.length cap q1 q2 hd, run_bytesToString w ad rows.length cap ns hl2, foldl_push_bytes]
      simp [ByteArray.empty, ByteArray.emptyWithCapacity]
      rfl
    | _ => cases hl
  | _ => cases hl
theorem mem_streq (hT : Tys P T) {o : Oper} (hE : Opnd A φ π loc st fr o.op.operands.toList ρ) {op : BinOp} {t : TypeId} {x y : Operand} {yt : TypeId} (ho : o.op = .binOp op t x y yt) {neg : Bool} (hop : isEq op = some neg)
    {x' y' : Od} (hx : cO π loc x = some x') (hy : cO π loc y = some y') {v : AV} (hv : opStrop st fr h (bif neg then 2 else 1) x' y' = some (v, h')) :
    ∃ rv, (execOp ρ o).run P w = .ok (.value rv) w ∧ cV A φ v rv := by
  have hv' : strEq st fr h neg x' y' = some (v, h') := by cases neg <;> exact hv
  obtain ⟨l, r, ha, hb, h6⟩ := str2_some hv'
  have hX : ρ x = .string ⟨l.toArray⟩ := hE _ (by rw [ho]; simp [Op.operands]) _ _ hx ha
  have hY : ρ y = .string ⟨r.toArray⟩ := hE _ (by rw [ho]; simp [Op.operands]) _ _ hy hb
  rcases isEq_some hop with ⟨rfl, rfl⟩ | ⟨rfl, rfl⟩
  · cases h6
    refine ⟨.bool (l == r), ?_, by rw [← eqU8_eq]; rfl⟩
    simp [execOp, ho, hX, hY, eqGuard, Go.binOp, Op.stringOp]
  · cases h6
    refine ⟨.bool (!(l == r)), ?_, by rw [← eqU8_eq]; show cS A φ (.bool (bnot (eqU8 l r))) (.bool (!eqU8 l r)); cases eqU8 l r <;> rfl⟩
    simp [execOp, ho, hX, hY, eqGuard, Go.binOp, Op.stringOp]
theorem mem_strcat {o : Oper} (hE : Opnd A φ π loc st fr o.op.operands.toList ρ) {t : TypeId} {x y : Operand} {yt : TypeId} (ho : o.op = .binOp .add t x y yt)
    {x' y' : Od} (hx : cO π loc x = some x') (hy : cO π loc y = some y') {v : AV} (hv : opStrop st fr h 4 x' y' = some (v, h')) :
    ∃ rv, (execOp ρ o).run P w = .ok (.value rv) w ∧ cV A φ v rv := by
  obtain ⟨l, r, ha, hb, h6⟩ := str2_some (show strCat st fr h x' y' = some (v, h') from hv)
  obtain ⟨h7, h8⟩ := oif_some.1 h6
  have h9 : l.length + r.length ≤ 1000000000 := by
    have := Nat.le_of_ble_eq_true h7
    rw [llen_eq, llen_eq] at this
    exact this
  have hX : ρ x = .string ⟨l.toArray⟩ := hE _ (by rw [ho]; simp [Op.operands]) _ _ hx ha
  have hY : ρ y = .string ⟨r.toArray⟩ := hE _ (by rw [ho]; simp [Op.operands]) _ _ hy hb
  cases h8
  refine ⟨.string ⟨(l ++ r).toArray⟩, ?_, by rw [lapp_eq]; rfl⟩
  have e1 : (⟨l.toArray⟩ : ByteArray) ++ ⟨r.toArray⟩ = ⟨(l ++ r).toArray⟩ := by
    apply ByteArray.ext
    simp [ByteArray.data_append]
  have e2 : ¬ (((⟨l.toArray⟩ : ByteArray).size + (⟨r.toArray⟩ : ByteArray).size : Nat) : Int) > IntKind.i64.max := by
    have h1 : (⟨l.toArray⟩ : ByteArray).size = l.length := by simp [ByteArray.size]
    have h2 : (⟨r.toArray⟩ : ByteArray).size = r.length := by simp [ByteArray.size]
    have h3 : IntKind.i64.max = 9223372036854775807 := by decide
    rw [h1, h2, h3]
    omega
  simp only [execOp, ho, hX, hY, eqGuard, Go.binOp, Op.stringOp, Sem.run_bind]
  rw [if_neg e2, e1]
  simp
theorem mem_strlen (hT : Tys P T) {o : Oper} (hE : Opnd A φ π loc st fr o.op.operands.toList ρ) {args : Array Operand} {ts : Array TypeId} (ho : o.op = .call ⟨.builtin .len, args, ts⟩) {t : TypeId} (ht : ts[0]? = some t) (hst : P.underlying t = some .string)
    {x : Operand} (hargs : args.toList = [x]) {x' : Od} (hx : cO π loc x = some x') {v : AV} (hv : opStrop st fr h 3 x' x' = some (v, h')) :
    ∃ rv, (execOp ρ o).run P w = .ok (.value rv) w ∧ cV A φ v rv := by
  obtain ⟨l, ha, h6⟩ := str1_some (show strLen st fr h x' = some (v, h') from hv)
  obtain ⟨_, h8⟩ := oif_some.1 h6
  have hX : ρ x = .string ⟨l.toArray⟩ := hE _ (by rw [ho]; exact mem_call (by rw [hargs]; simp)) _ _ hx ha
  cases h8
  have ha2 : args.map ρ = #[ρ x] := by rw [← Array.toList_inj, Array.toList_map, hargs]; rfl
  refine ⟨goInt (⟨l.toArray⟩ : ByteArray).size, ?_, ?_⟩
  · simp only [execOp, ho, resolve, invoke, builtin, Sem.run_bind, Sem.run_pure, Result.andThen_ok, ha2, hX, Builtin.len_, ht]
    simp [run_underlying hst]
  · have h1 : (⟨l.toArray⟩ : ByteArray).size = l.length := by simp [ByteArray.size]
    rw [h1, llen_eq]; rfl
theorem isIfcT_some (hT : Tys P T) {t : TypeId} (h : isIfcT T t = true) : ∃ ms, P.underlying t = some (.interface ms) := by
  unfold isIfcT at h
  split at h
  · rename_i ti hti
    split at h
    · rename_i hk
      obtain ⟨d, h1, h2⟩ := (hT _ _ hti).und
      rw [hk] at h2
      obtain ⟨ms, h3⟩ := h2
      exact ⟨ms, h1.trans (congrArg some h3)⟩
    · cases h
  · cases h
theorem isNilI_some {y : Operand} {y' : Od} (hy : cO π loc y = some y') (h : isNilI y' = true) : y' = .c (.s (.ifc false)) ∧ ∃ c, y = .const c := by
  unfold isNilI at h
  split at h
  · refine ⟨rfl, ?_⟩
    cases y with
    | tmp t =>
      simp only [cO] at hy
      split at hy
      · cases hy
      · split at hy <;> cases hy
    | const c => exact ⟨c, rfl⟩
    | func f => cases hy
    | global g =>
      simp only [cO] at hy
      split at hy <;> cases hy
  · cases h
theorem mem_ifceq (hT : Tys P T) {o : Oper} (hE : Opnd A φ π loc st fr o.op.operands.toList ρ) {op : BinOp} {t : TypeId} {x y : Operand} {yt : TypeId} (ho : o.op = .binOp op t x y yt) {neg : Bool} (hop : isEq op = some neg) (ht : isIfcT T t = true)
    {x' y' : Od} (hx : cO π loc x = some x') (hy : cO π loc y = some y') (hn : isNilI y' = true) {v : AV} (hv : opStrop st fr h (bif neg then 6 else 5) x' y' = some (v, h')) :
    ∃ rv, (execOp ρ o).run P w = .ok (.value rv) w ∧ cV A φ v rv := by
  obtain ⟨ms, hu⟩ := isIfcT_some hT ht
  obtain ⟨rfl, c, rfl⟩ := isNilI_some hy hn
  have hv' : ifcEq st fr h neg x' (.c (.s (.ifc false))) = some (v, h') := by cases neg <;> exact hv
  obtain ⟨_, p, q, ha, hb, hpq, rfl⟩ := ifcEq_some hv'
  cases hb
  have hX : isIfc p (ρ x) := hE _ (by rw [ho]; simp [Op.operands]) _ _ hx ha
  have hY0 : isIfc false (ρ (.const c)) := hE _ (by rw [ho]; simp [Op.operands]) _ _ hy (show ev st fr (.c (.s (.ifc false))) = some (.s (.ifc false)) from rfl)
  have hY : ρ (.const c) = .nilIface := by
    rcases hY0 with ⟨h1, _⟩ | ⟨_, h1⟩
    · cases h1
    · exact h1
  refine ⟨.bool (if p = false then !neg else neg), ?_, rfl⟩
  rcases hX with ⟨rfl, tt, pp, h1⟩ | ⟨rfl, h1⟩
  · have eq0 : (Op.equal t (.iface tt pp) .nilIface).run P w = .ok false w := by
      show (Op.equalIn (9999 + 1) t (.iface tt pp) .nilIface).run P w = _
      unfold Op.equalIn
      simp only [Sem.run_bind, run_underlying hu, Result.andThen_ok]
      rfl
    rcases isEq_some hop with ⟨rfl, rfl⟩ | ⟨rfl, rfl⟩
    · simp [execOp, ho, h1, hY, eqGuard, Go.binOp, eq0]
    · simp [execOp, ho, h1, hY, eqGuard, Go.binOp, eq0]
  · have eq0 : (Op.equal t .nilIface .nilIface).run P w = .ok true w := by
      show (Op.equalIn (9999 + 1) t .nilIface .nilIface).run P w = _
      unfold Op.equalIn
      simp only [Sem.run_bind, run_underlying hu, Result.andThen_ok]
      rfl
    rcases isEq_some hop with ⟨rfl, rfl⟩ | ⟨rfl, rfl⟩
    · simp [execOp, ho, h1, hY, eqGuard, Go.binOp, eq0]
    · simp [execOp, ho, h1, hY, eqGuard, Go.binOp, eq0]
def isCall : AO → Prop
  | .call _ _ => True
  | .callv _ _ => True
  | _ => False
theorem clOb_load {α : Type} (x : Option Nat) : clOb x .load = .other ∨ ∃ b, clOb x .load = .load b := by
  cases x with
  | none => exact .inl rfl
  | some b => exact .inr ⟨b, rfl⟩
/-- all operations on memory but calls -/
theorem aop_sound (hT : Tys P T) {o : Oper} (hE : Opnd A φ π loc st fr o.op.operands.toList ρ) (k : Rel A φ h w) {ao : AO} (hc : cOp T π loc o.op = some (.a ao)) (hn : ¬ isCall ao) {cl : FuncId → List AV → Hp → R} {v : AV} (hv : aop cl st fr h ao = some (v, h')) :
    MPost A (clsW h (clsOf st fr (.a ao))) φ h w v h' ((execOp ρ o).run P w) ∧ MPost A (fun n => h.lo ≤ n) φ h w v h' ((execOp ρ o).run P w) := by
  have both : ∀ {V : Nat → Prop}, MPost A (fun _ => False) φ h w v h' ((execOp ρ o).run P w) → MPost A V φ h w v h' ((execOp ρ o).run P w) := fun k => k.mono (fun _ h => h.elim)
  cases hop : o.op with
  | alloc e =>
    rw [hop] at hc
    obtain ⟨ti, hti, e⟩ := Option.map_eq_some_iff.1 hc
    cases e
    have m := mem_new (ρ := ρ) hT k hop hti hv
    exact ⟨both m, both m⟩
  | box e x =>
    rw [hop] at hc
    obtain ⟨y, hy, e⟩ := Option.map_eq_some_iff.1 hc
    cases e
    have m := mem_box (P := P) hE k hop hy hv
    exact ⟨both m, both m⟩
  | buildSlice t n ps =>
    rw [hop] at hc
    simp only [cOp] at hc
    split at hc
    · rename_i z hz
      cases hb : Nat.ble (n * z.2.size) 16777216 with
      | true =>
        rw [hb] at hc
        obtain ⟨l, hl, e⟩ := Option.map_eq_some_iff.1 hc
        cases e
        have m := mem_bslice hT hE k hop hz hb hl hv
        exact ⟨both m, both m⟩
      | false => rw [hb] at hc; cases hc
    · cases hc
  | makeSlice t l c =>
    rw [hop] at hc
    simp only [cOp] at hc
    split at hc
    · rename_i z l' c' hz hl hc'
      cases hc
      have m := mem_mkslice hT hE k hop hz hl hc' hv
      exact ⟨both m, both m⟩
    · cases hc
  | load t x =>
    rw [hop] at hc
    simp only [cOp] at hc
    split at hc
    · rename_i ti y hti hy
      cases hb : ti1 ti with
      | true =>
        rw [hb] at hc
        cases hc
        obtain ⟨rfl, rv, h1, h2⟩ := mem_load hT hE k hop hti hb hy hv
        have m : MPost A (fun _ => False) φ h' w v h' ((execOp ρ o).run P w) := ⟨_, rv, w, φ, h1, rfl, Step.refl _ k rfl rfl rfl rfl, k, h2⟩
        exact ⟨both m, both m⟩
      | false => rw [hb] at hc; cases hc
    · cases hc
  | store t x y =>
    rw [hop] at hc
    simp only [cOp] at hc
    split at hc
    · rename_i ti x' y' hti hx hy
      cases hc
      exact mem_store hT hE k hop hti hx hy hv
    · cases hc
  | call c =>
    obtain ⟨callee, args, ts⟩ := c
    rw [hop] at hc
    simp only [cOp, cCall] at hc
    split at hc
    · rename_i as has
      split at hc
      · cases hc; exact absurd trivial hn
      · obtain ⟨y, _, e⟩ := Option.map_eq_some_iff.1 hc
        cases e; exact absurd trivial hn
      · rename_i b
        split at hc
        · rename_i x
          split at hc
          · rename_i t ht
            cases hst : isStrT T t with
            | false => rw [hst] at hc; obtain ⟨_, _, e⟩ := Option.map_eq_some_iff.1 hc; cases e
            | true =>
              rw [hst] at hc
              cases hc
              obtain ⟨q, ho, hx⟩ := cOs_one has
              obtain rfl := opStrop_heap (show opStrop st fr h 3 x x = some (v, h') from hv)
              obtain ⟨rv, h1, h2⟩ := mem_strlen hT hE hop ht (isStrT_some hT hst) ho hx hv
              have m : MPost A (fun _ => False) φ h' w v h' ((execOp ρ o).run P w) := ⟨_, rv, w, φ, h1, rfl, Step.refl _ k rfl rfl rfl rfl, k, h2⟩
              exact ⟨both m, both m⟩
          · cases hc
        · cases hc
        · cases hc
        · rename_i x y
          obtain ⟨q, q', ho, hx, hy⟩ := cOs_two has
          split at hc
          · rename_i t ht
            obtain ⟨z, hz, e⟩ := Option.map_eq_some_iff.1 hc
            cases e
            have m := mem_copy hT hE k hop ht hz ho hx hy hv
            exact ⟨m, m⟩
          · cases hc
        · rename_i x
          obtain ⟨q, ho, hx⟩ := cOs_one has
          split at hc
          · rename_i t ht
            obtain ⟨z, hz, e⟩ := Option.map_eq_some_iff.1 hc
            cases e
            have m := mem_clear hT hE k hop ht hz ho hx hv
            exact ⟨m, m⟩
          · cases hc
        · rename_i x y
          obtain ⟨q, q', ho, hx, hy⟩ := cOs_two has
          split at hc
          · rename_i t u hts
            cases hb : Nat.beq t u with
            | true =>
              rw [hb] at hc
              obtain ⟨z, hz, e⟩ := Option.map_eq_some_iff.1 hc
              cases e
              obtain rfl := Nat.eq_of_beq_eq_true hb
              have hts' : ts = #[t, t] := by rw [← Array.toList_inj, hts]
              subst hts'
              obtain ⟨m1, m2⟩ := mem_app hT hE k hop hz ho hx hy hv
              refine ⟨m1.mono (fun n hn => ?_), m2⟩
              revert hn
              cases clsOf st fr (.a (.app z.1 z.2.size z.2.bytes x y)) <;> first | exact fun h => h | exact fun h => h.elim
            | false => rw [hb] at hc; cases hc
          · cases hc
        · cases hc; cases hv
      · cases hc; cases hv
    · cases hc
  | makeMap t r =>
    rw [hop] at hc
    cases r with
    | none =>
      obtain ⟨z, hz, e⟩ := Option.map_eq_some_iff.1 hc
      cases e
      have m := mem_mkmap (P := P) (ρ := ρ) k hop hv
      exact ⟨both m, both m⟩
    | some _ => cases hc; cases hv
  | lookup t x y okf =>
    rw [hop] at hc
    simp only [cOp] at hc
    split at hc
    · rename_i z x' y' hz hx hy
      cases hc
      obtain ⟨rfl, rv, h1, h2⟩ := mem_look hT hE k hop hz hx hy hv
      have m : MPost A (fun _ => False) φ h' w v h' ((execOp ρ o).run P w) := ⟨_, rv, w, φ, h1, rfl, Step.refl _ k rfl rfl rfl rfl, k, h2⟩
      exact ⟨both m, both m⟩
    · cases hc
  | mapUpdate t x y u =>
    rw [hop] at hc
    simp only [cOp] at hc
    split at hc
    · rename_i z x' y' u' hz hx hy hu
      cases hc
      have m := mem_mupd hT hE k hop hz hx hy hu hv
      exact ⟨m, m⟩
    · cases hc
  | move x => rw [hop] at hc; obtain ⟨_, _, e⟩ := Option.map_eq_some_iff.1 hc; cases e
  | assign x => rw [hop] at hc; obtain ⟨_, _, e⟩ := Option.map_eq_some_iff.1 hc; cases e
  | pick c a b => rw [hop] at hc; simp only [cOp] at hc; split at hc <;> cases hc
  | build t ps =>
    rw [hop] at hc
    simp only [cOp] at hc
    split at hc
    · split at hc
      · obtain ⟨_, _, e⟩ := Option.map_eq_some_iff.1 hc; cases e
      · split at hc
        · obtain ⟨_, _, e⟩ := Option.map_eq_some_iff.1 hc; cases e
        · cases hc
      · cases hc
    · cases hc
  | binOp op t x y yt =>
    rw [hop] at hc
    simp only [cOp] at hc
    split at hc
    · cases hi : isIntT T t with
      | true => rw [hi] at hc; obtain ⟨_, _, e⟩ := Option.map_eq_some_iff.1 hc; cases e
      | false =>
        rw [hi] at hc
        simp only [cond_false] at hc
        cases hsl : (sliceOf T t).isSome with
        | true => rw [hsl] at hc; obtain ⟨_, _, e⟩ := Option.map_eq_some_iff.1 hc; cases e
        | false =>
          rename_i x' y' hx' hy'
          rw [hsl] at hc
          simp only [cond_false] at hc
          split at hc
          · cases hc
          · rename_i n hn' _
            cases hpt : isPtrT T t with
            | false =>
              rw [hpt] at hc
              cases hst : isStrT T t with
              | false =>
                rw [hst] at hc
                simp only [cond_false] at hc
                cases hif : (isIfcT T t && isNilI y') with
                | false => rw [hif] at hc; cases hc
                | true =>
                  rw [hif] at hc
                  cases hc
                  obtain ⟨hi1, hi2⟩ := Bool.and_eq_true _ _ ▸ hif
                  obtain rfl := opStrop_heap (show opStrop st fr h _ x' y' = some (v, h') from hv)
                  obtain ⟨rv, h1, h2⟩ := mem_ifceq hT hE hop hn' hi1 hx' hy' hi2 hv
                  have m : MPost A (fun _ => False) φ h' w v h' ((execOp ρ o).run P w) := ⟨_, rv, w, φ, h1, rfl, Step.refl _ k rfl rfl rfl rfl, k, h2⟩
                  exact ⟨both m, both m⟩
              | true =>
                rw [hst] at hc
                cases hc
                obtain rfl := opStrop_heap (show opStrop st fr h _ x' y' = some (v, h') from hv)
                obtain ⟨rv, h1, h2⟩ := mem_streq hT hE hop hn' hx' hy' hv
                have m : MPost A (fun _ => False) φ h' w v h' ((execOp ρ o).run P w) := ⟨_, rv, w, φ, h1, rfl, Step.refl _ k rfl rfl rfl rfl, k, h2⟩
                exact ⟨both m, both m⟩
            | true =>
              rw [hpt] at hc
              cases hc
              obtain ⟨rfl, rv, h1, h2⟩ := mem_peq hT hE k hop hpt hn' hx' hy' hv
              have m : MPost A (fun _ => False) φ h' w v h' ((execOp ρ o).run P w) := ⟨_, rv, w, φ, h1, rfl, Step.refl _ k rfl rfl rfl rfl, k, h2⟩
              exact ⟨both m, both m⟩
          · split at hc
            · cases hst : isStrT T t with
              | false => rw [hst] at hc; cases hc
              | true =>
                rw [hst] at hc
                cases hc
                obtain rfl := opStrop_heap (show opStrop st fr h 4 x' y' = some (v, h') from hv)
                obtain ⟨rv, h1, h2⟩ := mem_strcat hE hop hx' hy' hv
                have m : MPost A (fun _ => False) φ h' w v h' ((execOp ρ o).run P w) := ⟨_, rv, w, φ, h1, rfl, Step.refl _ k rfl rfl rfl rfl, k, h2⟩
                exact ⟨both m, both m⟩
            · cases hc
    · cases hc
  | unOp op t x => rw [hop] at hc; cases op <;> first | (obtain ⟨_, _, e⟩ := Option.map_eq_some_iff.1 hc; cases e; done) | (cases hc; cases hv)
  | makeFunc fn fst caps =>
    rw [hop] at hc
    cases fn <;> first | (cases hc; cases hv; done) | skip
    simp only [cOp] at hc
    cases hb : Nat.beq fst.size 0 with
    | true => rw [hb] at hc; obtain ⟨_, _, e⟩ := Option.map_eq_some_iff.1 hc; cases e
    | false => rw [hb] at hc; cases hc
  | convert s d x =>
    rw [hop] at hc
    simp only [cOp] at hc
    split at hc
    · rename_i ts ti x' hs' hd' hx'
      split at hc
      · cases hc
      · rename_i hk
        cases hb : isBytesT T s with
        | false => rw [hb] at hc; cases hc
        | true =>
          rw [hb] at hc
          cases hc
          obtain rfl := opStrop_heap (show opStrop st fr h 0 x' x' = some (v, h') from hv)
          obtain ⟨d2, hd2, hk2⟩ := (hT _ _ hd').und
          rw [hk] at hk2
          obtain ⟨rv, h1, h2⟩ := mem_bstr (y' := x') hT hE k hop hb (hd2.trans (congrArg some hk2)) hx' hv
          have m : MPost A (fun _ => False) φ h' w v h' ((execOp ρ o).run P w) := ⟨_, rv, w, φ, h1, rfl, Step.refl _ k rfl rfl rfl rfl, k, h2⟩
          exact ⟨both m, both m⟩
      · cases hc
    · cases hc
  | nilCheck x => rw [hop] at hc; obtain ⟨_, _, e⟩ := Option.map_eq_some_iff.1 hc; cases e
  | slice t x lo hi mx =>
    rw [hop] at hc
    cases mx with
    | some m => cases hi with
      | none => cases hc; cases hv
      | some h => simp only [cOp] at hc; split at hc <;> cases hc
    | none =>
      simp only [cOp] at hc
      split at hc
      · cases hc
      · rename_i x' hs hx hlo hhi
        obtain ⟨z, hz, e⟩ := Option.map_eq_some_iff.1 hc
        cases e
        have hl : lo = none := by
          cases lo with
          | none => rfl
          | some q => obtain ⟨_, _, e⟩ := Option.map_eq_some_iff.1 (show (cO π loc q).map some = some none from hlo); cases e
        have hh : hi = none := by
          cases hi with
          | none => rfl
          | some q => obtain ⟨_, _, e⟩ := Option.map_eq_some_iff.1 (show (cO π loc q).map some = some none from hhi); cases e
        subst hl hh
        have m := mem_slicea hT hE k hop hz hx hv
        exact ⟨both m, both m⟩
      · cases hc
  | fieldAddr t x f => rw [hop] at hc; simp only [cOp] at hc; split at hc <;> cases hc
  | field t x f =>
    rw [hop] at hc
    simp only [cOp] at hc
    split at hc
    · rename_i p _ _ _
      cases hb : ti1 p.2 with
      | true => rw [hb] at hc; cases hc
      | false => rw [hb] at hc; cases hc
    · cases hc
  | indexAddr t x i => rw [hop] at hc; simp only [cOp] at hc; split at hc <;> cases hc
  | index t x i =>
    rw [hop] at hc
    simp only [cOp] at hc
    cases hst : isStrT T t with
    | true =>
      rw [hst] at hc
      simp only [cond_true] at hc
      split at hc <;> cases hc
    | false =>
    rw [hst] at hc
    simp only [cond_false] at hc
    split at hc
    · rename_i z _ _ _ _ _
      cases hb : ti1 z.2 with
      | true => rw [hb] at hc; cases hc
      | false => rw [hb] at hc; cases hc
    · cases hc
  | extract x i => rw [hop] at hc; obtain ⟨_, _, e⟩ := Option.map_eq_some_iff.1 hc; cases e
  | _ => rw [hop] at hc; cases hc; cases hv
end
end Go.Proofs.YtmaaalpegnhjcaaDoor.Ev
