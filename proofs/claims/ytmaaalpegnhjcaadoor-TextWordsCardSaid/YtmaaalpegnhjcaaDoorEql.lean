/- Equality of bools and of structs of numbers and bools. No program in sight. -/
import Derived.Test.YtmaaalpegnhjcaaDoorPop
import Derived.Laws.StructEq
import Derived.ChangeKeysEq
namespace Go.Proofs.YtmaaalpegnhjcaaDoor.Ev
open Go
set_option linter.unusedVariables false
set_option linter.unusedSimpArgs false
section
variable {P : Program} {T : Tr TI} {w : World} {A : Nat → Int} {φ : Phi}
theorem eqSV_sound {isB : Bool} {a b : SV} {e : Bool} {x y : Value} (h : eqSV isB a b = some e) (hx : cS A φ a x) (hy : cS A φ b y) :
    (isB = true ∧ ∃ p q, x = .bool p ∧ y = .bool q ∧ e = (p == q)) ∨ (isB = false ∧ ∃ k m n, x = .int k m ∧ y = .int k n ∧ e = (m == n)) := by
  cases isB with
  | true =>
    obtain ⟨p, rfl, h1⟩ := vBool_some (show vBool a (fun x => vBool b (fun y => some (oif x y (bnot y)))) = some e from h)
    obtain ⟨q, rfl, h2⟩ := vBool_some h1
    cases h2
    exact .inl ⟨rfl, p, q, hx, hy, by cases p <;> cases q <;> rfl⟩
  | false =>
    obtain ⟨k, m, rfl, h1⟩ := vInt_some (show vInt a (fun k m => vInt b (fun k' n => oif (Nat.beq (ikn k) (ikn k')) (some (ieq m n)) none)) = some e from h)
    obtain ⟨k', n, rfl, h2⟩ := vInt_some h1
    obtain ⟨h3, h4⟩ := oif_some.1 h2
    obtain rfl := ikn_inj h3
    cases h4
    exact .inr ⟨rfl, k, m, n, hx, hy, by rw [ieq_iff, Bool.eq_iff_iff]; simp⟩
theorem eqCells_nil {l r : List SV} {e : Bool} (h : eqCells [] l r = some e) : l = [] ∧ r = [] ∧ e = true := by
  cases l with
  | nil => cases r with
    | nil => exact ⟨rfl, rfl, (Option.some.inj (show some true = some e from h)).symm⟩
    | cons b r => cases h
  | cons a l => cases h
theorem eqCells_cons {s : Bool} {g : List Bool} {l r : List SV} {e : Bool} (h : eqCells (s :: g) l r = some e) :
    ∃ a l' b r' e1 e2, l = a :: l' ∧ r = b :: r' ∧ eqSV s a b = some e1 ∧ eqCells g l' r' = some e2 ∧ e = (e1 && e2) := by
  cases l with
  | nil => cases h
  | cons a l => cases r with
    | nil => cases h
    | cons b r =>
      obtain ⟨e1, h1, h2⟩ := ob_some.1 (show ob (eqSV s a b) (fun x => ob (eqCells g l r) (fun e => some (oif x e false))) = some e from h)
      obtain ⟨e2, h3, h4⟩ := ob_some.1 h2
      cases h4
      exact ⟨a, l, b, r, e1, e2, rfl, rfl, h1, h3, by cases e1 <;> rfl⟩
theorem eqCells_len : ∀ {g : List Bool} {l r : List SV} {e : Bool}, eqCells g l r = some e → l.length = g.length ∧ r.length = g.length
  | [], l, r, e, h => by obtain ⟨rfl, rfl, _⟩ := eqCells_nil h; exact ⟨rfl, rfl⟩
  | s :: g, l, r, e, h => by
    obtain ⟨a, l', b, r', e1, e2, rfl, rfl, _, h2, _⟩ := eqCells_cons h
    obtain ⟨h3, h4⟩ := eqCells_len h2
    simp [h3, h4]
theorem eqCells_app : ∀ {g g' : List Bool} {l r : List SV} {e : Bool}, eqCells (g ++ g') l r = some e →
    ∃ e1 e2, eqCells g (l.take g.length) (r.take g.length) = some e1 ∧ eqCells g' (l.drop g.length) (r.drop g.length) = some e2 ∧ e = (e1 && e2)
  | [], g', l, r, e, h => ⟨true, e, rfl, by simpa using h, by simp⟩
  | s :: g, g', l, r, e, h => by
    obtain ⟨a, l', b, r', e1, e2, rfl, rfl, h1, h2, rfl⟩ := eqCells_cons h
    obtain ⟨e3, e4, h3, h4, rfl⟩ := eqCells_app h2
    refine ⟨e1 && e3, e4, ?_, by simpa using h4, by simp [Bool.and_assoc]⟩
    have : eqCells (s :: g) (a :: l'.take g.length) (b :: r'.take g.length) = some (oif e1 e3 false) := by
      show ob (eqSV s a b) (fun x => ob (eqCells g (l'.take g.length) (r'.take g.length)) (fun e => some (oif x e false))) = _
      rw [h1, h3]; rfl
    simp only [List.length_cons, List.take_succ_cons]
    rw [this]; cases e1 <;> rfl
/-- how a type's cells are a value -/
def shapeV (P : Program) (t : TypeId) (xs : List Value) (x : Value) : Prop :=
  match P.underlying t with
  | some (.struct _) => x = .agg xs.toArray
  | some (.array _ _) => x = .agg xs.toArray
  | _ => xs = [x]
theorem part_shape {d : Nat} {t : TypeId} {s : List Bool} (h : eqSig P d t = some s) {i : TypeInfo} (hi : P.info? t = some i) (hs : i.size = s.length) {xs : List Value} {off : Nat} (hl : off + s.length ≤ xs.length) :
    ∃ x, (part t xs.toArray off).run P w = .ok x w ∧ shapeV P t ((xs.drop off).take s.length) x := by
  cases d with
  | zero => cases h
  | succ d =>
    unfold eqSig at h
    split at h
    · rename_i hu
      cases h
      have hlt : off < xs.length := by simp at hl; omega
      refine ⟨xs[off], by simp [part, isAgg, run_underlying hu, hlt], ?_⟩
      simp only [shapeV, hu]
      rw [List.drop_eq_getElem_cons hlt]; rfl
    · rename_i k hu
      cases h
      have hlt : off < xs.length := by simp at hl; omega
      refine ⟨xs[off], by simp [part, isAgg, run_underlying hu, hlt], ?_⟩
      simp only [shapeV, hu]
      rw [List.drop_eq_getElem_cons hlt]; rfl
    · rename_i fs hu
      refine ⟨.agg (xs.toArray.extract off (off + i.size)), by simp [part, isAgg, run_underlying hu, sizeOf, typeInfo, hi], ?_⟩
      simp only [shapeV, hu]
      rw [hs]
      congr 1
      simp [List.extract_eq_take_drop]
    · rename_i n e hu
      refine ⟨.agg (xs.toArray.extract off (off + i.size)), by simp [part, isAgg, run_underlying hu, sizeOf, typeInfo, hi], ?_⟩
      simp only [shapeV, hu]
      rw [hs]
      congr 1
      simp [List.extract_eq_take_drop]
    · cases h
theorem eqIn_sound : ∀ (d : Nat) (t : TypeId) (sig : List Bool), eqSig P d t = some sig → ∀ (cs ds : List SV) (xs ys : List Value) (x y : Value) (e : Bool), All2 (cS A φ) cs xs → All2 (cS A φ) ds ys → eqCells sig cs ds = some e →
    shapeV P t xs x → shapeV P t ys y → (Op.equalIn d t x y).run P w = .ok e w := by
  intro d
  induction d with
  | zero => intro t sig h; cases h
  | succ d ih =>
    intro t sig h cs ds xs ys x y e hx hy he sx sy
    have fields : ∀ (fs : List Field) (off : Nat) (sig : List Bool), sigFields P (eqSig P d) fs off = some sig → ∀ (cs ds : List SV) (e : Bool), All2 (cS A φ) cs (xs.drop off) → All2 (cS A φ) ds (ys.drop off) → eqCells sig cs ds = some e →
        (Op.eqFields d xs.toArray ys.toArray fs).run P w = .ok e w := by
      intro fs
      induction fs with
      | nil =>
        intro off sig h cs ds e _ _ he
        cases (show some [] = some sig from h)
        obtain ⟨_, _, rfl⟩ := eqCells_nil he
        rfl
      | cons f fs ihf =>
        intro off sig h cs ds e hx hy he
        unfold sigFields at h
        split at h
        · cases h
        rename_i hn
        split at h
        · cases h
        rename_i ho
        have ho' : f.offset = off := by simpa using ho
        split at h
        · rename_i s i hs hi
          split at h
          · rename_i hsz0
            obtain ⟨hsz, hs0⟩ := hsz0
            split at h
            · rename_i l hl
              cases h
              obtain ⟨e1, e2, h1, h2, rfl⟩ := eqCells_app he
              obtain ⟨l1, l2⟩ := eqCells_len he
              have hxl := hx.len
              have hyl := hy.len
              simp only [List.length_append, List.length_drop] at l1 l2 hxl hyl
              obtain ⟨a, pa, sa⟩ := part_shape (w := w) hs hi hsz (xs := xs) (off := off) (by omega)
              obtain ⟨b, pb, sb⟩ := part_shape (w := w) hs hi hsz (xs := ys) (off := off) (by omega)
              have hi1 := ih f.type s hs _ _ _ _ a b e1 (hx.take s.length) (hy.take s.length) h1 sa sb
              have hi2 := ihf (off + s.length) l hl _ _ e2 (by simpa [List.drop_drop] using hx.drop s.length) (by simpa [List.drop_drop] using hy.drop s.length) h2
              simp only [Op.eqFields, hn, ne_eq, not_false_eq_true, if_true, Sem.run_bind, ho', pa, pb, Result.andThen_ok, hi1]
              cases e1
              · rfl
              · simpa using hi2
            · cases h
          · cases h
        · cases h
    unfold eqSig at h
    split at h
    · rename_i hu
      cases h
      simp only [shapeV, hu] at sx sy
      subst sx sy
      obtain ⟨a, l', b, r', e1, e2, rfl, rfl, h1, h2, rfl⟩ := eqCells_cons he
      obtain ⟨rfl, rfl, rfl⟩ := eqCells_nil h2
      cases hx with | cons hx _ => cases hy with | cons hy _ =>
      rcases eqSV_sound h1 hx hy with ⟨_, p, q, rfl, rfl, rfl⟩ | ⟨h, _⟩
      · rw [run_equalIn_bool' (h := hu)]; simp
      · cases h
    · rename_i k hu
      cases h
      simp only [shapeV, hu] at sx sy
      subst sx sy
      obtain ⟨a, l', b, r', e1, e2, rfl, rfl, h1, h2, rfl⟩ := eqCells_cons he
      obtain ⟨rfl, rfl, rfl⟩ := eqCells_nil h2
      cases hx with | cons hx _ => cases hy with | cons hy _ =>
      rcases eqSV_sound h1 hx hy with ⟨h, _⟩ | ⟨_, k', m, n, rfl, rfl, rfl⟩
      · cases h
      · rw [run_equalIn_int (h := hu)]; simp
    · rename_i fs hu
      split at h
      · cases h
      rename_i hst
      simp only [shapeV, hu] at sx sy
      subst sx sy
      have hf : P.fieldsOf t = fs := by simp [Program.fieldsOf, hu]
      rw [run_equalIn_struct (ht := by rw [hf]; exact hu) (hp := by simpa using hst), hf]
      exact fields fs.toList 0 sig h cs ds e (by simpa using hx) (by simpa using hy) he
    · rename_i n el hu
      split at h
      · rename_i hc
        obtain ⟨hs, hi⟩ := hc
        cases h
        obtain ⟨i, hi, hsz⟩ := Option.map_eq_some_iff.1 hi
        simp only [shapeV, hu] at sx sy
        subst sx sy
        have c1 : P.cellsOf el = 1 := by simp [Program.cellsOf, hi, hsz]
        have items : ∀ (m off : Nat) (cs ds : List SV) (e : Bool), All2 (cS A φ) cs (xs.drop off) → All2 (cS A φ) ds (ys.drop off) → eqCells (List.replicate m false) cs ds = some e →
            (Op.eqItems d el 1 xs.toArray ys.toArray (List.range' off m)).run P w = .ok e w := by
          intro m
          induction m with
          | zero =>
            intro off cs ds e _ _ he
            obtain ⟨_, _, rfl⟩ := eqCells_nil he
            rfl
          | succ m ihm =>
            intro off cs ds e hx hy he
            obtain ⟨a, l', b, r', e1, e2, rfl, rfl, h1, h2, rfl⟩ := eqCells_cons he
            have hxl := hx.len
            have hyl := hy.len
            simp only [List.length_cons, List.length_drop] at hxl hyl
            obtain ⟨a', pa, sa⟩ := part_shape (w := w) hs hi hsz (xs := xs) (off := off) (by simp; omega)
            obtain ⟨b', pb, sb⟩ := part_shape (w := w) hs hi hsz (xs := ys) (off := off) (by simp; omega)
            have hi1 := ih el [false] hs [a] [b] _ _ a' b' e1 (hx.take 1) (hy.take 1) (by
              show ob (eqSV false a b) (fun x => ob (eqCells [] [] []) (fun e => some (oif x e false))) = some e1
              rw [h1]
              show some (oif e1 true false) = some e1
              cases e1 <;> rfl) sa sb
            have hi2 := ihm (off + 1) l' r' e2 (by simpa [List.drop_drop] using hx.drop 1) (by simpa [List.drop_drop] using hy.drop 1) h2
            rw [List.range'_succ]
            simp only [Op.eqItems, Sem.run_bind, Nat.mul_one, pa, pb, Result.andThen_ok, hi1]
            cases e1
            · rfl
            · simpa using hi2
        rw [run_equalIn_array w d xs.toArray ys.toArray hu hi, c1, List.range_eq_range']
        exact items n 0 cs ds e (by simpa using hx) (by simpa using hy) he
      · cases h
    · cases h
end
end Go.Proofs.YtmaaalpegnhjcaaDoor.Ev
