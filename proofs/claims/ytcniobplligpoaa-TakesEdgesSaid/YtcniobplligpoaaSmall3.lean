/- MadeMix: the call returns true and turns nothing that was there. Conditions: numbers of 64 bits; lists that lie in memory. -/
import Derived.Test.YtcniobplligpoaaTakes
import Derived.Test.YtcniobplligpoaaMeet
namespace Go.Proofs.Ytcniobplligpoaa
open Go.RowKit
set_option linter.unusedVariables false

set_option maxHeartbeats 1000000 in
theorem madeMix_walk (w : World) (seed : Int) (hseed : In64 seed) (op : Int) (hop : In64 op) (place : Int) (hplace : In64 place) (A : Option Addr) (len cap : Nat) (xs : List Int) (hl : xs.length = len) (hr : len * 8 ≤ 140737488351232) (hx : Nums .i64 w A xs) (_ : ∀ x ∈ xs, In64 x) :
    Calls Try.prog 10 #[.int .i64 seed, .int .i64 op, .int .i64 place, .slice A len cap] w fun e w' => e = .returned (.bool true) ∧ Below w.heap.size w w' := by
  obtain ⟨ho1, ho2⟩ := hop
  have hp := pick_nn op 256 (by omega)
  have hp' := pick_lt op 256 (by omega)
  have HP := fun w => hide (picked_any op 256 w ho1 ho2 (by omega) (by omega))
  generalize pick op 256 = k at *
  obtain ⟨m, hm⟩ : ∃ m, mix ([seed, k, place] ++ xs) = m := ⟨_, rfl⟩
  have HM := hide hm
  have HL := hide hl
  clear hl hm
  have hB : Below w.heap.size w w := Below.refl _ _
  go_enter Try.func10, Try.ntmps10
  go_wp2_with (first
    | (go_at_call 15; (with_reducible refine (HP _).out.mono ?_); rintro e w' ⟨rfl, rfl⟩)
    | (go_at_call 21; (with_reducible refine (made_any seed k place _ _ _ _ _ xs _ hx HL.out hr HM.out).mono ?_); rintro e w1 ⟨rfl, hb1⟩)
    | (at_builtin; refine wpList_app sl_int (own3 (w := w1) rfl (Nat.le_refl _) seed k place _) (((hx.keep hb1).keep ((Below.refl _ _).alloc (Nat.le_refl _) _)).src HL.out) (ints_one _ _) rfl (s := .tmp 23) rfl rfl rfl (by unfold maxLen; omega) (by omega) (by simp <;> omega) ?_
       intro v2 w2 hown2 hg2 hat2
       rw [← List.map_append] at hown2
       obtain ⟨A2, c2, rfl, hnm2, hl2, -⟩ := nums_of_own hown2
       have hb2 : Below w.heap.size w w2 := (hb1.alloc hb1.size _).grown hg2 (by have := hb1.size; simp <;> omega) (fun k hk => by have := hb1.size; simp [Value.ownBlock] at hk; omega)
       have HL2 := hide hl2; clear hl2)
    | (go_at_call 14; (with_reducible refine (mix_to _ _ _ ([seed, k, place] ++ xs) _ hnm2 HL2.out (by omega) HM.out).mono ?_); rintro e w' ⟨rfl, rfl⟩)
    | (go_at_call 20; (with_reducible refine (takes_no _ _ _ _ _ 0 0 0 _ _ _ _ _ _ _ (by omega) (by omega) (by omega)).mono ?_); rintro e w3 ⟨rfl, hb3⟩)
    | (go_at_call 20; (with_reducible refine (takes_one' _ _ _ _ _ _ _ _ _ _ _ _ _ _ (by omega) (by omega) (by omega)).mono ?_); rintro e w4 ⟨rfl, hb4⟩))
  go_ret
  have hb5 := hb2.trans (hb3.mono hb2.size)
  exact ⟨rfl, ((hb5.alloc hb5.size _).alloc (by have := hb5.size; simp <;> omega) _).trans (hb4.mono (by have := hb5.size; simp <;> omega))⟩

end Go.Proofs.Ytcniobplligpoaa
