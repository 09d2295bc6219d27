/- The small laws' calls: each returns true and turns nothing that was there. Conditions: numbers of 64 bits; lists that lie in memory. -/
import Derived.Test.YtcniobplligpoaaShape0
import Derived.Lib.QuietBelow
import Derived.Test.YtcniobplligpoaaMeet
import Derived.Test.YtcniobplligpoaaTakes
namespace Go.Proofs.Ytcniobplligpoaa
open Go.RowKit
set_option linter.unusedVariables false

set_option maxHeartbeats 400000 in
theorem mixStep_walk (w : World) (A : Option Addr) (len cap : Nat) (xs : List Int) (hl : xs.length = len) (hr : len * 8 ≤ 140737488351232) (hx : Nums .i64 w A xs) (_ : ∀ x ∈ xs, In64 x) (n : Int) (hn : In64 n) :
    Calls Try.prog 4 #[.slice A len cap, .int .i64 n] w fun e w' => e = .returned (.bool true) ∧ Below w.heap.size w w' := by
  obtain ⟨hn1, hn2⟩ := hn
  have hb := mix_bd xs
  have hp := pick_nn n 1000003 (by omega)
  have hp' := pick_lt n 1000003 (by omega)
  have hb2 := mix_bd (xs ++ [pick n 1000003])
  have HE : Hid (mix (xs ++ [pick n 1000003]) = (31 * mix xs + pick n 1000003) % 1000003) := by
    show _ = _
    rw [mix_snoc, mixStep, Int.tmod_eq_emod_of_nonneg (by omega)]
    omega
  have HL := hide hl
  clear hl
  have hsrc := hx.src HL.out
  go_enter Try.func4, Try.ntmps4
  have hb0 : Below w.heap.size w w := Below.refl _ _
  go_wp2_with (first
    | (go_at_call 14; (with_reducible refine (mix_any A len cap xs w hx HL.out (by omega)).mono ?_); rintro e w' ⟨rfl, rfl⟩)
    | (go_at_call 14; (with_reducible refine (mix_any none 0 0 [] _ (Nums.nil _ _ _) rfl (by omega)).mono ?_); rintro e w' ⟨rfl, rfl⟩)
    | (go_at_call 14; (with_reducible refine (mix_any A2 (len + 1) c2 (xs ++ [pick n 1000003]) _ hnm2 (by simp [HL.out]) (by omega)).mono ?_); rintro e w' ⟨rfl, rfl⟩)
    | (go_at_call 15; refine (picked_any n 1000003 w hn1 hn2 (by omega) (by omega)).mono ?_; rintro e w' ⟨rfl, rfl⟩)
    | (at_builtin; refine wpList_app0 (base := w.heap.size) sl_int hsrc (ints_one _ _) rfl (s := .const (Value.slice none 0 0)) rfl rfl rfl (by unfold maxLen; omega) (by omega) (Nat.le_refl _) ?_; intro v1 w1 hown1 hg1; have hb1 : Below w.heap.size w w1 := hb0.grown hg1 (Nat.le_refl _) (by simp); obtain ⟨A1, c1, rfl⟩ := own_shape hown1)
    | (at_builtin; refine wpList_app sl_int (hown1.alloc _) (src_new w1 _ 1 1 [.int .i64 (pick n 1000003)] rfl) (ints_one .i64 [pick n 1000003]) rfl (s := .tmp 13) rfl rfl rfl (by unfold maxLen; omega) (by omega) (by have := hb1.size; simp; omega) ?_; intro v2 w2 hown2 hg2 hat2; rw [show xs.map (Value.int .i64) ++ [Value.int .i64 (pick n 1000003)] = (xs ++ [pick n 1000003]).map (Value.int .i64) from by simp] at hown2; obtain ⟨A2, c2, rfl, hnm2, -, -⟩ := nums_of_own hown2))
  go_ret
  exact ⟨rfl, (hb1.alloc hb1.size _).grown hg2 (by have := hb1.size; simp; omega) (fun k hk => (hown1.lt k hk).1)⟩

set_option maxHeartbeats 400000 in
theorem mixModulo_walk (w : World) (A : Option Addr) (len cap : Nat) (xs : List Int) (hl : xs.length = len) (hr : len * 8 ≤ 140737488351232) (hx : Nums .i64 w A xs) (_ : ∀ x ∈ xs, In64 x) (n : Int) (hn : In64 n) (k : Int) (hk : In64 k) :
    Calls Try.prog 5 #[.slice A len cap, .int .i64 n, .int .i64 k] w fun e w' => e = .returned (.bool true) ∧ Below w.heap.size w w' := by
  obtain ⟨hn1, hn2⟩ := hn
  obtain ⟨hk1, hk2⟩ := hk
  have hp := pick_nn n 1000003 (by omega)
  have hp' := pick_lt n 1000003 (by omega)
  have hq := pick_nn k 2000 (by omega)
  have hq' := pick_lt k 2000 (by omega)
  have HE : Hid (mix (xs ++ [pick n 1000003 + 1000003 * (pick k 2000 - 1000)]) = mix (xs ++ [pick n 1000003])) := mix_mod _ _ _
  have HL := hide hl
  clear hl
  have hsrc := hx.src HL.out
  have hb0 : Below w.heap.size w w := Below.refl _ _
  go_enter Try.func5, Try.ntmps5
  go_wp2_with (first
    | (go_at_call 14; (with_reducible refine (mix_to (r := 218) (some ⟨w4.heap.size, 0, none⟩) 1 1 [1] _ hnm5 rfl (by omega) rfl).mono ?_); rintro e w' ⟨rfl, rfl⟩)
    | (go_at_call 14; (with_reducible refine (mix_any A2 (len + 1) c2 (xs ++ [pick n 1000003]) _ hnm2 (by simp [HL.out]) (by omega)).mono ?_); rintro e w' ⟨rfl, rfl⟩)
    | (go_at_call 14; (with_reducible refine (mix_to A4 (len + 1) c4 (xs ++ [(pick n 1000003 + 1000003 * (pick k 2000 - 1000))]) _ hnm4 (by simp [HL.out]) (by omega) HE.out).mono ?_); rintro e w' ⟨rfl, rfl⟩)
    | (go_at_call 15; (with_reducible refine (picked_any n 1000003 w hn1 hn2 (by omega) (by omega)).mono ?_); rintro e w' ⟨rfl, rfl⟩)
    | (go_at_call 15; (with_reducible refine (picked_any k 2000 w hk1 hk2 (by omega) (by omega)).mono ?_); rintro e w' ⟨rfl, rfl⟩)
    | (at_builtin; refine wpList_app0 (base := w.heap.size) sl_int hsrc (ints_one _ _) rfl (s := .const (Value.slice none 0 0)) (x := .tmp 17) rfl rfl rfl (by unfold maxLen; omega) (by omega) (Nat.le_refl _) ?_; intro v1 w1 hown1 hg1; have hb1 : Below w.heap.size w w1 := hb0.grown hg1 (Nat.le_refl _) (by simp); obtain ⟨A1, c1, rfl⟩ := own_shape hown1)
    | (at_builtin; refine wpList_app sl_int (hown1.alloc _) (src_new w1 _ 1 1 [.int .i64 (pick n 1000003)] rfl) (ints_one .i64 [pick n 1000003]) rfl (s := .tmp 18) rfl rfl rfl (by unfold maxLen; omega) (by omega) (by have := hb1.size; simp; omega) ?_; intro v2 w2 hown2 hg2 hat2; rw [show xs.map (Value.int .i64) ++ [Value.int .i64 (pick n 1000003)] = (xs ++ [pick n 1000003]).map (Value.int .i64) from by simp] at hown2; obtain ⟨A2, c2, rfl, hnm2, -, -⟩ := nums_of_own hown2; have hb2 : Below w.heap.size w w2 := (hb1.alloc hb1.size _).grown hg2 (by have := hb1.size; simp; omega) (fun k hk => (hown1.lt k hk).1))
    | (at_builtin; refine wpList_app0 (base := w.heap.size) sl_int ((hx.keep hb2).src HL.out) (ints_one _ _) rfl (s := .const (Value.slice none 0 0)) (x := .tmp 23) rfl rfl rfl (by unfold maxLen; omega) (by omega) hb2.size ?_; intro v3 w3 hown3 hg3; have hb3 : Below w.heap.size w w3 := hb2.grown hg3 hb2.size (by simp); obtain ⟨A3, c3, rfl⟩ := own_shape hown3)
    | (at_builtin; refine wpList_app sl_int (hown3.alloc _) (src_new w3 _ 1 1 [.int .i64 (pick n 1000003 + 1000003 * (pick k 2000 - 1000))] rfl) (ints_one .i64 [(pick n 1000003 + 1000003 * (pick k 2000 - 1000))]) rfl (s := .tmp 24) rfl rfl rfl (by unfold maxLen; omega) (by omega) (by have := hb3.size; simp; omega) ?_; intro v4 w4 hown4 hg4 hat4; rw [show xs.map (Value.int .i64) ++ [Value.int .i64 (pick n 1000003 + 1000003 * (pick k 2000 - 1000))] = (xs ++ [(pick n 1000003 + 1000003 * (pick k 2000 - 1000))]).map (Value.int .i64) from by simp] at hown4; obtain ⟨A4, c4, rfl, hnm4, -, -⟩ := nums_of_own hown4; have hb4 : Below w.heap.size w w4 := (hb3.alloc hb3.size _).grown hg4 (by have := hb3.size; simp; omega) (fun k hk => (hown3.lt k hk).1); have hnm5 : Nums .i64 (w4.alloc (.cells #[.int .i64 1] 3)) (some ⟨w4.heap.size, 0, none⟩) [1] := nums_new w4 _ .i64 [1]))
  go_ret
  exact ⟨rfl, hb4.alloc hb4.size _⟩

set_option maxHeartbeats 400000 in
theorem machineBad_walk (w : World) (a : Int) (ha : In64 a) (b : Int) (hb : In64 b) :
    Calls Try.prog 6 #[.int .i64 a, .int .i64 b] w fun e w' => e = .returned (.bool true) ∧ Below w.heap.size w w' := by
  obtain ⟨ha1, ha2⟩ := ha
  obtain ⟨hb1, hb2⟩ := hb
  have hp := pick_nn a 20 (by omega)
  have hp' := pick_lt a 20 (by omega)
  have hq := pick_nn b 20 (by omega)
  have hq' := pick_lt b 20 (by omega)
  have hc1 := picked_any a 20 w ha1 ha2 (by omega) (by omega)
  have hc2 := picked_any b 20 w hb1 hb2 (by omega) (by omega)
  generalize pick a 20 = x at *
  generalize pick b 20 = y at *
  have HC1 := hide hc1
  have HC2 := hide hc2
  clear hc1 hc2
  by_cases h1 : 2 ≤ x - 3 <;> by_cases h2 : x - 3 ≤ 10 <;> by_cases h3 : 2 ≤ y - 3 <;> by_cases h4 : y - 3 ≤ 10
  all_goals first
    | omega
    | (have hr : Hid (ckMach (x - 3) (y - 3) = 0) := by (show _ = _); unfold ckMach; rw [if_pos (by omega)]
       go_enter Try.func6, Try.ntmps6
       go_wp2_with (first
         | (go_at_call 15; (with_reducible refine (HC1.out).mono ?_); rintro e w' ⟨rfl, rfl⟩)
         | (go_at_call 15; (with_reducible refine (HC2.out).mono ?_); rintro e w' ⟨rfl, rfl⟩)
         | (go_at_call 16; (with_reducible refine (checkMachine_to (x - 3) (y - 3) w (by omega) (by omega) (by omega) (by omega) hr.out).mono ?_); rintro e w' ⟨rfl, hbel⟩))
       go_ret
       exact ⟨by first | rfl | (refine ret_bool ?_; simp; omega), hbel⟩)
    | (have hr : Hid (ckMach (x - 3) (y - 3) = 2) := by (show _ = _); unfold ckMach; rw [if_neg (by omega)]
       go_enter Try.func6, Try.ntmps6
       go_wp2_with (first
         | (go_at_call 15; (with_reducible refine (HC1.out).mono ?_); rintro e w' ⟨rfl, rfl⟩)
         | (go_at_call 15; (with_reducible refine (HC2.out).mono ?_); rintro e w' ⟨rfl, rfl⟩)
         | (go_at_call 16; (with_reducible refine (checkMachine_to (x - 3) (y - 3) w (by omega) (by omega) (by omega) (by omega) hr.out).mono ?_); rintro e w' ⟨rfl, hbel⟩))
       go_ret
       exact ⟨by first | rfl | (refine ret_bool ?_; simp; omega), hbel⟩)

set_option maxHeartbeats 1000000 in
theorem meetUses_walk (w : World) (v : Int) (hv : In64 v) (u : Int) (hu : In64 u) :
    Calls Try.prog 8 #[.int .i64 v, .int .i64 u] w fun e w' => e = .returned (.bool true) ∧ Below w.heap.size w w' := by
  obtain ⟨ha1, ha2⟩ := hv
  obtain ⟨hb1, hb2⟩ := hu
  have hB : Below w.heap.size w w := Below.refl _ _
  go_enter Try.func8, Try.ntmps8
  go_wp2_with (first
    | (go_at_call 15; (with_reducible refine (picked_any v 9 _ ha1 ha2 (by omega) (by omega)).mono ?_); rintro e w' ⟨rfl, rfl⟩)
    | (go_at_call 15; (with_reducible refine (picked_any u 9 _ hb1 hb2 (by omega) (by omega)).mono ?_); rintro e w' ⟨rfl, rfl⟩))
  (with_reducible refine (meet_to (r := false) _ _ _ _ _ _ _ _ _ _ _ (by simp [meetB])).mono ?_)
  rintro e w1 ⟨rfl, hb1⟩
  obtain ⟨hc, hf⟩ := bcells hb1
  go_wp2_with (first
    | (go_at_call 18; (with_reducible refine (meet_to (r := true) _ _ _ _ _ _ _ _ _ _ _ ?hr).mono ?_); (case hr => (simp [meetB]; done)); rintro e w1 ⟨rfl, hbel⟩; replace hb1 := hb1.trans (hbel.mono hb1.size); clear hbel hc hf; obtain ⟨hc, hf⟩ := bcells hb1)
    | (go_at_call 18; (with_reducible refine (meet_to (r := false) _ _ _ _ _ _ _ _ _ _ _ ?hr).mono ?_); (case hr => (simp [meetB]; done)); rintro e w1 ⟨rfl, hbel⟩; replace hb1 := hb1.trans (hbel.mono hb1.size); clear hbel hc hf; obtain ⟨hc, hf⟩ := bcells hb1))
  go_ret
  refine ⟨rfl, ((((hB.alloc hB.size _).alloc (by simp) _).alloc (by simp; omega) _).alloc (by simp; omega) _).trans (hb1.mono (by simp; omega))⟩
end Go.Proofs.Ytcniobplligpoaa
