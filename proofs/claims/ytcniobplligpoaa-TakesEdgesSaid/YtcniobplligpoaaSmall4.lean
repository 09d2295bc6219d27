/- TakesEdges, under way. -/
import Derived.Test.YtcniobplligpoaaSmall3
import Derived.Test.YtcniobplligpoaaReg
import Derived.Deep.DeepCutAuto
namespace Go.Proofs.Ytcniobplligpoaa
open Go.RowKit
set_option linter.unusedVariables false
set_option maxHeartbeats 1000000 in
theorem op_any (n : Int) (A : Option Addr) (len cap : Nat) (w : World) :
    Calls Try.prog 19 #[.int .i64 n, .slice A len cap] w fun e w' => e = .returned (.agg #[.int .i64 n, .slice A len cap, .slice none 0 0]) ∧ Below w.heap.size w w' := by
  go_enter Try.func19, Try.ntmps19
  go_wp2
  refine bodyPost_ret (v := .agg #[.int .i64 n, .slice A len cap, .slice none 0 0]) (by simp [results, Try.results19, go_sem]) rfl ⟨rfl, (Below.refl _ _).alloc (Nat.le_refl _) _⟩

/-- 'make([]T, n)' -/
theorem makeN {P : Program} (t e : TypeId) {z : Value} (size bytes : Nat) (ht : P.underlying t = some (.slice e)) (hi : (P.info? e).map (fun i => (i.zero, i.size, i.bytes)) = some (some z, size, bytes)) (n : Nat) (w : World) (hb : bytes * n ≤ 281474976710656) (hn : n ≤ 9223372036854775807) :
    (Instr.makeSlice t (.int .i64 (n : Int)) (.int .i64 (n : Int))).run P w = .ok (.slice (some ⟨w.heap.size, 0, none⟩) n n) (w.alloc (.cells (madeCells z.cells (n * size)) e)) := by
  obtain ⟨i, h1, h2, h3, h4⟩ := info_parts hi
  have hb' : (i.bytes : Int) * (n : Int) ≤ 281474976710656 := by
    rw [h4, ← Int.natCast_mul]
    exact Int.ofNat_le.2 hb
  have hr := run_make (P := P) w t e i z ht h1 h2 .i64 .i64 n n (by omega) (by omega) hb' (by omega)
  simp only [Int.toNat_natCast, h3] at hr
  exact hr

/-- what each operation of the block's literal leaves -/
def STE (N : Nat) (k : Nat) : Nat → Value → World → Prop
  | 0, v, _ => v = .agg #[.int .i64 1, .slice none 0 0, .slice none 0 0]
  | 1, v, _ => v = .agg #[.int .i64 2, .slice none 0 0, .slice none 0 0]
  | 2, v, _ => v = .agg #[.int .i64 3, .slice none 0 0, .slice none 0 0]
  | 3, v, w => ∃ b, v = .slice (some ⟨b, 0, none⟩) 3 3 ∧ w.heap[b]? = some (.cells #[.int .i64 1, .slice none 0 0, .slice none 0 0, .int .i64 2, .slice none 0 0, .slice none 0 0, .int .i64 3, .slice none 0 0, .slice none 0 0] 53 (0, 0))
  | 4, v, _ => v = .int .i64 k
  | 5, v, _ => ∃ E, v = .slice E k k
  | 6, v, w => ∃ b E, v = .agg #[.slice none 0 0, .slice (some ⟨b, 0, none⟩) 3 3, .slice E k k] ∧ w.heap[b]? = some (.cells #[.int .i64 1, .slice none 0 0, .slice none 0 0, .int .i64 2, .slice none 0 0, .slice none 0 0, .int .i64 3, .slice none 0 0, .slice none 0 0] 53 (0, 0))
  | 7, v, w => ∃ g, v = .pointer (some ⟨g, 0, none⟩) ∧ N ≤ g ∧ w.heap[g]? = some (.cells #[.slice none 0 0, .slice none 0 0, .slice none 0 0] 36 (0, 0))
  | _, _, _ => True
theorem STE_keep (N k : Nat) : ∀ i v (w w' : World), Below w.heap.size w w' → STE N k i v w → STE N k i v w'
  | 0, _, _, _, _, h | 1, _, _, _, _, h | 2, _, _, _, _, h | 4, _, _, _, _, h | 5, _, _, _, _, h => h
  | 3, _, _, _, hb, ⟨b, h1, h2⟩ => ⟨b, h1, heap_keep hb h2⟩
  | 6, _, _, _, hb, ⟨b, E, h1, h2⟩ => ⟨b, E, h1, heap_keep hb h2⟩
  | 7, _, _, _, hb, ⟨g, h1, h2, h3⟩ => ⟨g, h1, h2, heap_keep hb h3⟩
  | _ + 8, _, _, _, _, _ => trivial

set_option maxHeartbeats 1000000 in
theorem takesEdges_walk (w : World) (seed : Int) (hseed : In64 seed) (n : Int) (hn : In64 n) (i : Int) (hi : In64 i) (A : Option Addr) (len cap : Nat) (xs : List Int) (hl : xs.length = len) (hr : len * 8 ≤ 140737488351232) (hx : Nums .i64 w A xs) (_ : ∀ x ∈ xs, In64 x) :
    Calls Try.prog 9 #[.int .i64 seed, .int .i64 n, .int .i64 i, .slice A len cap] w fun e w' => e = .returned (.bool true) ∧ Below w.heap.size w w' := by
  obtain ⟨hn1, hn2⟩ := hn
  obtain ⟨hi1, hi2⟩ := hi
  have hp := pick_nn n 4 (by omega)
  have hp' := pick_lt n 4 (by omega)
  have hq := pick_nn i 5 (by omega)
  have hq' := pick_lt i 5 (by omega)
  have HP := fun w => hide (picked_any n 4 w hn1 hn2 (by omega) (by omega))
  have HQ := fun w => hide (picked_any i 5 w hi1 hi2 (by omega) (by omega))
  generalize pick n 4 = k' at *
  generalize pick i 5 = j at *
  obtain ⟨k, rfl⟩ : ∃ k : Nat, k' = (k : Int) := ⟨k'.toNat, by omega⟩
  have HL := hide hl
  clear hl
  have hB : Below w.heap.size w w := Below.refl _ _
  go_enter Try.func9, Try.ntmps9
  have hmk := fun W => makeN (P := Try.prog) 34 59 (z := .agg #[.int .i64 0, .slice none 0 0]) 2 32 Try.underlying34 (by kernel_rfl) k W (by omega) (by omega)
  have hmk1 : ∀ W : World, (Instr.makeSlice 34 (.int .i64 1) (.int .i64 1)).run Try.prog W = .ok (.slice (some ⟨W.heap.size, 0, none⟩) 1 1) (W.alloc (.cells (madeCells (Value.agg #[.int .i64 0, .slice none 0 0]).cells 2) 59)) :=
    fun W => makeN (P := Try.prog) 34 59 (z := .agg #[.int .i64 0, .slice none 0 0]) 2 32 Try.underlying34 (by kernel_rfl) 1 W (by omega) (by omega)
  go_upto_region 2 with (go_at_call 15; (with_reducible refine (HP _).out.mono ?_); rintro e w' ⟨rfl, rfl⟩)
  refine wp_region_build (m := 8) (by kernel_rfl) (by kernel_rfl) (STE w.heap.size k) (STE_keep _ _) (by kernel_rfl) ?_ ?_
  · intro i o hi ho a w1 hB1 hfr hS
    rcases i with _ | _ | _ | _ | _ | _ | _ | _ | i
    all_goals (first | omega | skip)
    all_goals (simp only [List.getElem?_cons_zero, List.getElem?_cons_succ, Option.some.injEq, Nat.zero_add] at ho; subst ho; unfold Oper.wp; dsimp only at hS)
    · go_simp
      (with_reducible refine (op_any 1 none 0 0 w1).mono ?_); rintro e w2 ⟨rfl, hbel⟩
      exact ⟨_, rfl, hbel, rfl⟩
    · go_simp
      (with_reducible refine (op_any 2 none 0 0 w1).mono ?_); rintro e w2 ⟨rfl, hbel⟩
      exact ⟨_, rfl, hbel, rfl⟩
    · go_simp
      (with_reducible refine (op_any 3 none 0 0 w1).mono ?_); rintro e w2 ⟨rfl, hbel⟩
      exact ⟨_, rfl, hbel, rfl⟩
    · have e0 : (a.tmps[16]?).getD undef = _ := hS 0 (by kernel_rfl)
      have e1 : (a.tmps[17]?).getD undef = _ := hS 1 (by kernel_rfl)
      have e2 : (a.tmps[18]?).getD undef = _ := hS 2 (by kernel_rfl)
      clear hfr hS
      go_simp
      exact ⟨_, rfl, (Below.refl _ _).alloc (Nat.le_refl _) _, _, rfl, heap_alloc_new _ _⟩
    · have e9 : (a.tmps[9]?).getD undef = .int .i64 k := hfr 9 rfl
      clear hfr hS
      go_simp
      exact ⟨_, rfl, Below.refl _ _, rfl⟩
    · have e9 : (a.tmps[20]?).getD undef = .int .i64 k := hS 4 (by kernel_rfl)
      clear hfr hS
      go_simp
      exact ⟨_, rfl, (Below.refl _ _).alloc (Nat.le_refl _) _, _, rfl⟩
    · obtain ⟨b, e19, hb⟩ : STE _ _ 3 ((a.tmps[19]?).getD undef) w1 := hS 3 (by kernel_rfl)
      obtain ⟨E, e21⟩ : STE _ _ 5 ((a.tmps[21]?).getD undef) w1 := hS 5 (by kernel_rfl)
      clear hfr hS
      go_simp
      exact ⟨_, rfl, Below.refl _ _, _, _, rfl, hb⟩
    · clear hfr hS
      go_simp
      exact ⟨_, rfl, (Below.refl _ _).alloc (Nat.le_refl _) _, _, rfl, hB1.size, heap_alloc_new _ _⟩
  · intro o ho vs w1 hB1 hS
    simp only [List.getElem?_cons_zero, List.getElem?_cons_succ, Option.some.injEq] at ho
    subst ho
    have s0 := hS 0 (by omega)
    have s1 := hS 1 (by omega)
    have s2 := hS 2 (by omega)
    have s3 := hS 3 (by omega)
    have s4 := hS 4 (by omega)
    have s5 := hS 5 (by omega)
    have s6 := hS 6 (by omega)
    have s7 := hS 7 (by omega)
    clear hS
    simp only [putAll, dstOf, List.getElem?_cons_zero, List.getElem?_cons_succ, Option.bind_some, Option.getD_some, Act.put, List.setIfInBounds_toArray, List.set_cons_zero, List.set_cons_succ]
    generalize vs 0 = v0 at *
    generalize vs 1 = v1 at *
    generalize vs 2 = v2 at *
    generalize vs 3 = v3 at *
    generalize vs 4 = v4 at *
    generalize vs 5 = v5 at *
    generalize vs 6 = v6 at *
    generalize vs 7 = v7 at *
    obtain rfl : v0 = _ := s0
    obtain rfl : v1 = _ := s1
    obtain rfl : v2 = _ := s2
    obtain rfl : v4 = _ := s4
    obtain ⟨b3, rfl, hb3⟩ := s3
    obtain ⟨E5, rfl⟩ := s5
    obtain ⟨b, E, rfl, hb⟩ := s6
    obtain ⟨g, rfl, hg0, hg⟩ := s7
    have c0 := cell_of_row w1 g 0 _ _ _ hg
    have c1 := cell_of_row w1 g 1 _ _ _ hg
    have c2 := cell_of_row w1 g 2 _ _ _ hg
    have f0 := frozen_row hg 0
    have f1 := frozen_row hg 1
    have f2 := frozen_row hg 2
    unfold Oper.wp
    go_simp
    generalize hw2 : World.setCell (World.setCell (World.setCell w1 _ _) _ _) _ _ = w2
    have hB2 : Below w.heap.size w w2 := by rw [← hw2]; exact ((hB1.setCell hg0 _).setCell hg0 _).setCell hg0 _
    have hg2 : w2.heap[g]? = some (.cells #[.slice none 0 0, .slice (some ⟨b, 0, none⟩) 3 3, .slice E k k] 36 (0, 0)) := by
      rw [← hw2]; exact heap_set_row (heap_set_row (heap_set_row hg 0 _) 1 _) 2 _
    have hne : b ≠ g := by rintro rfl; rw [hb] at hg; injection hg with hg; injection hg with _ h; cases h
    have hb2 : w2.heap[b]? = w1.heap[b]? := by
      rw [← hw2, Below.heap_setCell _ _ _ _ hne, Below.heap_setCell _ _ _ _ hne, Below.heap_setCell _ _ _ _ hne]
    rw [hb] at hb2
    clear hb hg c0 c1 c2 f0 f1 f2 hw2 hB1 hb3
    have c0 := cell_of_row w2 g 0 _ _ _ hg2
    have c1 := cell_of_row w2 g 1 _ _ _ hg2
    have c2 := cell_of_row w2 g 2 _ _ _ hg2
    have hop : w2.cell? ⟨b, 0 + 2 * 3, none⟩ = some (.int .i64 3) := cell_of_row w2 b 6 _ _ _ hb2
    clear hb2 hg2
    by_cases hj : j = 3
    · subst hj
      have hj1 : ((3 : Int) - 1 != 2) = false := rfl
      rcases Nat.lt_or_ge k 2 with hk2 | hk2
      · rcases Nat.eq_zero_or_pos k with hk0 | hk0
        · subst hk0
          go_wp2_with (first
            | (go_at_call 15; (with_reducible refine (HQ _).out.mono ?_); rintro e w' ⟨rfl, rfl⟩)
            | (go_at_call 20; (with_reducible refine (takes_no _ _ _ _ _ _ 3 0 _ _ _ _ _ _ _ (by omega) (by omega) (by omega)).mono ?_); rintro e w3 ⟨rfl, hb3⟩; have hB3 : Below w.heap.size w w3 := hB2.trans (hb3.mono hB2.size); have hz3 := hB3.size)
            | (go_at_call 20; (with_reducible refine (takes_one' _ _ _ _ _ _ _ _ _ _ _ _ _ _ (by omega) (by omega) (by omega)).mono ?_); rintro e w4 ⟨rfl, hb4⟩; have hB4 : Below w.heap.size w w4 := ((hB3.alloc hB3.size _).alloc (by simp <;> omega) _).trans (hb4.mono (by simp <;> omega))))
          go_ret
          exact ⟨by first | rfl | (refine ret_bool ?_; simp <;> omega), hB4⟩

        · obtain rfl : k = 1 := by omega
          go_wp2_with (first
            | (go_at_call 15; (with_reducible refine (HQ _).out.mono ?_); rintro e w' ⟨rfl, rfl⟩)
            | (go_at_call 20; (with_reducible refine (takes_one' _ 2 _ _ _ _ 3 _ _ _ _ _ _ _ (by omega) (by omega) (by omega)).mono ?_); rintro e w3 ⟨rfl, hb3⟩; have hB3 : Below w.heap.size w w3 := hB2.trans (hb3.mono hB2.size); have hz3 := hB3.size)
            | (go_at_call 20; (with_reducible refine (takes_one' _ _ _ _ _ _ _ _ _ _ _ _ _ _ (by omega) (by omega) (by omega)).mono ?_); rintro e w4 ⟨rfl, hb4⟩; have hB4 : Below w.heap.size w w4 := ((hB3.alloc hB3.size _).alloc (by simp <;> omega) _).trans (hb4.mono (by simp <;> omega))))
          go_ret
          exact ⟨by first | rfl | (refine ret_bool ?_; simp <;> omega), hB4⟩

      · have hk3 : ((k : Int) == 0) = false := by rw [beq_eq_false_iff_ne]; omega
        have hx2 := hx.keep hB2
        have hk4 : (0 : Int) < (k : Int) := by omega
        obtain ⟨r, hr0⟩ : ∃ r, mix ([seed, 3, -1] ++ xs) % (k : Int) = r := ⟨_, rfl⟩
        have hr1 : 0 ≤ r := by rw [← hr0]; exact Int.emod_nonneg _ (by omega)
        have hr2 : r < (k : Int) := by rw [← hr0]; exact Int.emod_lt_of_pos _ hk4
        have HR := hide hr0
        clear hr0
        go_wp2_with (first
          | (go_at_call 15; (with_reducible refine (HQ _).out.mono ?_); rintro e w' ⟨rfl, rfl⟩)
          | (go_at_call 20; (with_reducible refine (takes_many' _ 3 _ _ _ b 0 _ 3 _ _ _ _ _ _ _ xs _ (by omega) (by omega) (by omega) (by omega) hk2 hop hx2 HL.out hr HR.out).mono ?_); rintro e w3 ⟨rfl, hb3⟩; have hB3 : Below w.heap.size w w3 := hB2.trans (hb3.mono hB2.size); have hz3 := hB3.size)
          | (go_at_call 20; (with_reducible refine (takes_one' _ _ _ _ _ _ _ _ _ _ _ _ _ _ (by omega) (by omega) (by omega)).mono ?_); rintro e w4 ⟨rfl, hb4⟩; have hB4 : Below w.heap.size w w4 := ((hB3.alloc hB3.size _).alloc (by simp <;> omega) _).trans (hb4.mono (by simp <;> omega))))
        go_ret
        exact ⟨by first | rfl | (refine ret_bool ?_; simp <;> omega), hB4⟩

    · have hj1 : (j - 1 != 2) = true := by rw [bne_iff_ne]; omega
      go_wp2_with (first
        | (go_at_call 15; (with_reducible refine (HQ _).out.mono ?_); rintro e w' ⟨rfl, rfl⟩)
        | (go_at_call 20; (with_reducible refine (takes_no _ _ _ _ _ _ 3 _ _ _ _ _ _ _ _ (by omega) (by omega) (by omega)).mono ?_); rintro e w3 ⟨rfl, hb3⟩; have hB3 : Below w.heap.size w w3 := hB2.trans (hb3.mono hB2.size); have hz3 := hB3.size)
        | (go_at_call 20; (with_reducible refine (takes_one' _ _ _ _ _ _ _ _ _ _ _ _ _ _ (by omega) (by omega) (by omega)).mono ?_); rintro e w4 ⟨rfl, hb4⟩; have hB4 : Below w.heap.size w w4 := ((hB3.alloc hB3.size _).alloc (by simp <;> omega) _).trans (hb4.mono (by simp <;> omega))))
      go_ret
      exact ⟨by first | rfl | (refine ret_bool ?_; simp <;> omega), hB4⟩
end Go.Proofs.Ytcniobplligpoaa
