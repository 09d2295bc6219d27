/- run.Made and run.Takes answer as madeF and takesF do. Conditions: lists of at most 2^44 - 512 numbers; the block's last instruction lies in memory where it is asked. -/
import Derived.Test.YtcniobplligpoaaMix
import Derived.Deep.RegionHeld3
namespace Go.Proofs.Ytcniobplligpoaa
open Go.RowKit
set_option linter.unusedVariables false
theorem sl_int : SlT Try.prog 23 3 1 8 := .mk' Try.underlying23 (z := .int .i64 0) (by kernel_rfl) rfl (by omega)

/-- three numbers of the call's own, as an owned row -/
theorem own3 {w : World} {N B : Nat} (hN : w.heap.size = N) (hB : B ≤ N) (a b c : Int) (e : TypeId) : (w.alloc (.cells #[.int .i64 a, .int .i64 b, .int .i64 c] e)).ownsRow B e 1 (.slice (some ⟨N, 0, none⟩) 3 3) 3 ([a, b, c].map (Value.int .i64)) := by
  subst hN
  exact World.ownsRow_lit w #[.int .i64 a, .int .i64 b, .int .i64 c] 3 hB (by unfold maxLen; omega) rfl

set_option maxHeartbeats 400000 in
theorem made_any {r : Int} (seed op place : Int) (O S : Value) (A : Option Addr) (len cap : Nat) (xs : List Int) (w : World) (hx : Nums .i64 w A xs) (hl : xs.length = len) (hr : len * 8 ≤ 140737488351232)
    (hres : mix ([seed, op, place] ++ xs) = r) :
    Calls Try.prog 21 #[.int .i64 seed, .agg #[.int .i64 op, O, S], .int .i64 place, .slice A len cap] w fun e w' => e = .returned (.int .i64 r) ∧ Below w.heap.size w w' := by
  have HL := hide hl
  have HR := hide hres
  clear hl hres
  have hB : Below w.heap.size w w := Below.refl _ _
  go_enter Try.func21, Try.ntmps21
  go_wp2_with (first
    | (at_builtin; refine wpList_app sl_int (own3 (N := w.heap.size + 1) (B := w.heap.size) (by simp) (by omega) seed op place _) (((hx.keep ((Below.refl _ _).alloc (Nat.le_refl _) _)).keep ((Below.refl _ _).alloc (Nat.le_refl _) _)).src HL.out) (ints_one _ _) rfl (s := .tmp 13) rfl rfl rfl (by unfold maxLen; omega) (by omega) (by simp <;> omega) ?_
       intro v1 w1 hown1 hg1 hat1
       rw [← List.map_append] at hown1
       obtain ⟨A1, c1, rfl, hnm1, hl1, -⟩ := nums_of_own hown1
       have hb1 : Below w.heap.size w w1 := ((hB.alloc hB.size _).alloc (by simp) _).grown hg1 (by simp <;> omega) (fun k hk => by simp [Value.ownBlock] at hk; omega)
       have HL1 := hide hl1; clear hl1)
    | (go_at_call 14; (with_reducible refine (mix_to _ _ _ ([seed, op, place] ++ xs) _ hnm1 HL1.out (by omega) HR.out).mono ?_); rintro e w' ⟨rfl, rfl⟩))
  go_ret
  exact ⟨rfl, hb1⟩

/-- which edge is taken; -1: none -/
def takesF (seed : Int) (nI : Nat) (op i : Int) (nE : Nat) (xs : List Int) : Int :=
  if i < 0 ∨ i ≠ (nI : Int) - 1 ∨ nE = 0 then -1 else if nE = 1 then 0 else mix ([seed, op, -1] ++ xs) % (nE : Int)

set_option maxHeartbeats 400000 in
theorem takes_no (seed i : Int) (Pa I E : Option Addr) (nP nI nE cP cI cE : Nat) (A : Option Addr) (len cap : Nat) (w : World)
    (hI : nI ≤ 9223372036854775807) (hE : nE ≤ 9223372036854775807) (h : i < 0 ∨ i ≠ (nI : Int) - 1 ∨ nE = 0) :
    Calls Try.prog 20 #[.int .i64 seed, .agg #[.slice Pa nP cP, .slice I nI cI, .slice E nE cE], .int .i64 i, .slice A len cap] w fun e w' => e = .returned (.int .i64 (-1)) ∧ Below w.heap.size w w' := by
  have hB : ∀ o, Below w.heap.size w (w.alloc o) := fun o => (Below.refl _ _).alloc (Nat.le_refl _) _
  by_cases h1 : i < 0
  · clear h
    go_enter Try.func20, Try.ntmps20
    go_wp2
    go_ret
    exact ⟨rfl, hB _⟩
  · by_cases h2 : i ≠ (nI : Int) - 1
    · have h3 : (i != (nI : Int) - 1) = true := by rw [bne_iff_ne]; exact h2
      clear h h2
      go_enter Try.func20, Try.ntmps20
      go_wp2
      go_ret
      exact ⟨rfl, hB _⟩
    · have h3 : (i != (nI : Int) - 1) = false := by rw [bne_eq_false_iff_eq]; omega
      have h4 : nE = 0 := by omega
      subst h4
      clear h h2
      go_enter Try.func20, Try.ntmps20
      go_wp2
      go_ret
      exact ⟨rfl, hB _⟩

set_option maxHeartbeats 400000 in
theorem takes_one (seed : Int) (Pa I E : Option Addr) (nP nI cP cI cE : Nat) (A : Option Addr) (len cap : Nat) (w : World)
    (hI : nI < 9223372036854775807) :
    Calls Try.prog 20 #[.int .i64 seed, .agg #[.slice Pa nP cP, .slice I (nI + 1) cI, .slice E 1 cE], .int .i64 nI, .slice A len cap] w fun e w' => e = .returned (.int .i64 0) ∧ Below w.heap.size w w' := by
  have hB : ∀ o, Below w.heap.size w (w.alloc o) := fun o => (Below.refl _ _).alloc (Nat.le_refl _) _
  have h3 : ((nI : Int) != ((nI + 1 : Nat) : Int) - 1) = false := by rw [bne_eq_false_iff_eq]; omega
  have h5 : ((nI : Int) != (nI : Int) + 1 - 1) = false := by rw [bne_eq_false_iff_eq]; omega
  go_enter Try.func20, Try.ntmps20
  go_wp2
  go_ret
  exact ⟨rfl, hB _⟩

theorem takes_one' (seed i : Int) (Pa I E : Option Addr) (nP n cP cI cE : Nat) (A : Option Addr) (len cap : Nat) (w : World) (h0 : 0 ≤ i) (h : i + 1 = (n : Int)) (hn : n ≤ 9223372036854775807) :
    Calls Try.prog 20 #[.int .i64 seed, .agg #[.slice Pa nP cP, .slice I n cI, .slice E 1 cE], .int .i64 i, .slice A len cap] w fun e w' => e = .returned (.int .i64 0) ∧ Below w.heap.size w w' := by
  obtain ⟨k, rfl⟩ : ∃ k : Nat, i = (k : Int) := ⟨i.toNat, by omega⟩
  obtain rfl : n = k + 1 := by omega
  exact takes_one seed Pa I E nP k cP cI cE A len cap w (by omega)

set_option maxHeartbeats 1000000 in
theorem takes_many {r : Int} (seed op : Int) (Pa E : Option Addr) (b off nP nI nE cP cI cE : Nat) (A : Option Addr) (len cap : Nat) (xs : List Int) (w : World)
    (hI : nI < 9223372036854775807) (hE : nE ≤ 9223372036854775807) (hE2 : 2 ≤ nE) (hop : w.cell? ⟨b, off + nI * 3, none⟩ = some (.int .i64 op))
    (hx : Nums .i64 w A xs) (hl : xs.length = len) (hr : len * 8 ≤ 140737488351232) (hres : mix ([seed, op, -1] ++ xs) % (nE : Int) = r) :
    Calls Try.prog 20 #[.int .i64 seed, .agg #[.slice Pa nP cP, .slice (some ⟨b, off, none⟩) (nI + 1) cI, .slice E nE cE], .int .i64 nI, .slice A len cap] w fun e w' => e = .returned (.int .i64 r) ∧ Below w.heap.size w w' := by
  have hB : Below w.heap.size w w := Below.refl _ _
  have h3 : ((nI : Int) != ((nI + 1 : Nat) : Int) - 1) = false := by rw [bne_eq_false_iff_eq]; omega
  have h5 : ((nI : Int) != (nI : Int) + 1 - 1) = false := by rw [bne_eq_false_iff_eq]; omega
  have h6 : ((nE : Int) == 0) = false := by rw [beq_eq_false_iff_ne]; omega
  have h7 : ((nE : Int) == 1) = false := by rw [beq_eq_false_iff_ne]; omega
  have h8 : (0 : Int) < (nE : Int) := by omega
  have h9 : (nE : Int) ≤ 9223372036854775807 := by omega
  have h10 : ¬ nE = 0 := by omega
  have HL := hide hl
  have hbd := mix_bd ([seed, op, -1] ++ xs)
  generalize hm : mix ([seed, op, -1] ++ xs) = m at *
  obtain ⟨hm0, hm1⟩ := hbd
  have HM := hide hm
  have HR := hide hres
  clear hl hres hm
  have hi0 : (0 : Int) ≤ (nI : Int) := by omega
  have hi1 : (nI : Int) < ((nI + 1 : Nat) : Int) := by omega
  have hi2 : (nI : Int) < (nI : Int) + 1 := by omega
  have hlt : b < w.heap.size := World.block_lt_of_cell? w _ hop
  go_enter Try.func20, Try.ntmps20
  go_wp2_with fail
  go_region_held3 (fun w' => w'.cell? ⟨w.heap.size, 1, none⟩ = some (.slice (some ⟨b, off, none⟩) (nI + 1) cI) ∧ w'.cell? ⟨w.heap.size, 2, none⟩ = some (.slice E nE cE) ∧ w'.cell? ⟨b, off + nI * 3, none⟩ = some (.int .i64 op))
    (first
      | go_keep
      | (go_split_ands; refine ⟨?_, ?_, ?_⟩ <;> (rw [hgrow.cell_far _ (by simp <;> omega) (by simp [Value.ownBlock] <;> omega)]; assumption)))
    (first
      | (refine step_app sl_int ((own3 (N := w.heap.size + 1) (B := w.heap.size) (by simp) (by omega) seed op (-1) _).drew) (((hx.keep ((Below.refl _ _).alloc (Nat.le_refl _) _)).keep (((Below.refl _ _).alloc (Nat.le_refl _) _).drew)).src HL.out) (ints_one _ _) (by rfl) (by rfl) (by rfl) (by rfl) (by unfold maxLen; omega) (by omega) (by simp <;> omega) ?_
         intro v1 w1 hown1 hgrow hat1
         rw [← List.map_append] at hown1
         obtain ⟨A1, c1, rfl, hnm1, hl1, -⟩ := nums_of_own hown1
         have hb1 : Below w.heap.size w w1 := (((hB.alloc hB.size _).alloc (by simp) _).drew).grown hgrow (by simp <;> omega) (fun k hk => by simp [Value.ownBlock] at hk; omega)
         have HL1 := hide hl1; clear hl1)
      | (go_simp; go_at_call 14; (with_reducible refine (mix_to _ _ _ ([seed, op, -1] ++ xs) _ hnm1 HL1.out (by omega) HM.out).mono ?_); rintro e w' ⟨rfl, rfl⟩))
  go_wp2
  go_ret
  exact ⟨ret_int ((Int.tmod_eq_emod_of_nonneg hm0).trans HR.out), hb1⟩

theorem takes_many' {r : Int} (seed op i : Int) (Pa E : Option Addr) (b off nP n nE cP cI cE : Nat) (A : Option Addr) (len cap : Nat) (xs : List Int) (w : World) (h0 : 0 ≤ i) (h : i + 1 = (n : Int))
    (hI : n ≤ 9223372036854775807) (hE : nE ≤ 9223372036854775807) (hE2 : 2 ≤ nE) (hop : w.cell? ⟨b, off + i.toNat * 3, none⟩ = some (.int .i64 op))
    (hx : Nums .i64 w A xs) (hl : xs.length = len) (hr : len * 8 ≤ 140737488351232) (hres : mix ([seed, op, -1] ++ xs) % (nE : Int) = r) :
    Calls Try.prog 20 #[.int .i64 seed, .agg #[.slice Pa nP cP, .slice (some ⟨b, off, none⟩) n cI, .slice E nE cE], .int .i64 i, .slice A len cap] w fun e w' => e = .returned (.int .i64 r) ∧ Below w.heap.size w w' := by
  obtain ⟨k, rfl⟩ : ∃ k : Nat, i = (k : Int) := ⟨i.toNat, by omega⟩
  obtain rfl : n = k + 1 := by omega
  exact takes_many seed op Pa E b off nP k nE cP cI cE A len cap xs w (by omega) hE hE2 (by simpa using hop) hx hl hr hres
end Go.Proofs.Ytcniobplligpoaa
