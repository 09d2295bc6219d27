/- MeetBoth: the call returns true and turns nothing that was there. Conditions: numbers of 64 bits. -/
import Derived.Test.YtcniobplligpoaaSmall
namespace Go.Proofs.Ytcniobplligpoaa
open Go.RowKit
set_option linter.unusedVariables false
theorem meetB_comm (a b : Opd) (ha : a.kind = 1 ∨ a.kind = 2) (hb : b.kind = 1 ∨ b.kind = 2) : meetB b a = meetB a b := by
  unfold meetB
  rcases ha with h1 | h1 <;> rcases hb with h2 | h2 <;> simp [h1, h2]
  rw [bne_comm]

set_option maxHeartbeats 400000 in
theorem operand_any (k v f : Int) (w : World) (hk : In64 k) (hv : In64 v) (hf : In64 f) :
    Calls Try.prog 17 #[.int .i64 k, .int .i64 v, .int .i64 f] w
      fun e w' => e = .returned (.agg #[.int .i64 (1 + pick k 2), .int .i64 (pick v 4), .bool (pick f 2 == 1), .int .i64 1, .int .i64 0]) ∧ Below w.heap.size w w' := by
  obtain ⟨hk1, hk2⟩ := hk
  obtain ⟨hv1, hv2⟩ := hv
  obtain ⟨hf1, hf2⟩ := hf
  have p1 := pick_nn k 2 (by omega)
  have p2 := pick_lt k 2 (by omega)
  go_enter Try.func17, Try.ntmps17
  go_wp2_with (first
    | (go_at_call 15; (with_reducible refine (picked_any k 2 _ hk1 hk2 (by omega) (by omega)).mono ?_); rintro e w' ⟨rfl, rfl⟩)
    | (go_at_call 15; (with_reducible refine (picked_any v 4 _ hv1 hv2 (by omega) (by omega)).mono ?_); rintro e w' ⟨rfl, rfl⟩)
    | (go_at_call 15; (with_reducible refine (picked_any f 2 _ hf1 hf2 (by omega) (by omega)).mono ?_); rintro e w' ⟨rfl, rfl⟩))
  refine bodyPost_ret (v := .agg #[.int .i64 (1 + pick k 2), .int .i64 (pick v 4), .bool (pick f 2 == 1), .int .i64 1, .int .i64 0]) (by simp [results, Try.results17, go_sem]) rfl ⟨rfl, (Below.refl _ _).alloc (Nat.le_refl _) _⟩

theorem grown5 {W : World} {b : Nat} {t : TypeId} {v0 v1 v2 v3 v4 : Value} (h : W.heap[b]? = some (.cells #[v0, v1, v2, v3, v4] t (0, 0))) (d : Nat) (os : Array Obj) :
    (Sort.grow (redrawn W d) os).cell? ⟨b, 0, none⟩ = some v0 ∧ (Sort.grow (redrawn W d) os).cell? ⟨b, 1, none⟩ = some v1 ∧ (Sort.grow (redrawn W d) os).cell? ⟨b, 2, none⟩ = some v2 ∧
    (Sort.grow (redrawn W d) os).cell? ⟨b, 3, none⟩ = some v3 ∧ (Sort.grow (redrawn W d) os).cell? ⟨b, 4, none⟩ = some v4 := by
  have hc : ∀ i u, (#[v0, v1, v2, v3, v4] : Array Value)[i]? = some u → (Sort.grow (redrawn W d) os).cell? ⟨b, i, none⟩ = some u := fun i u hu =>
    cell_regrown (by rw [cell_of_row W b i _ t (0, 0) h]; exact hu) d os
  exact ⟨hc 0 _ rfl, hc 1 _ rfl, hc 2 _ rfl, hc 3 _ rfl, hc 4 _ rfl⟩

set_option maxHeartbeats 1000000 in
theorem meetBoth_walk (w : World) (k : Int) (hk : In64 k) (v : Int) (hv : In64 v) (f : Int) (hf : In64 f) (k' : Int) (hk' : In64 k') (v' : Int) (hv' : In64 v') (f' : Int) (hf' : In64 f') :
    Calls Try.prog 7 #[.int .i64 k, .int .i64 v, .int .i64 f, .int .i64 k', .int .i64 v', .int .i64 f'] w fun e w' => e = .returned (.bool true) ∧ Below w.heap.size w w' := by
  have p1 := pick_nn k 2 (by omega)
  have p2 := pick_lt k 2 (by omega)
  have p1' := pick_nn k' 2 (by omega)
  have p2' := pick_lt k' 2 (by omega)
  have HE := hide (meetB_comm ⟨1 + pick k 2, pick v 4, pick f 2 == 1, 1, 0⟩ ⟨1 + pick k' 2, pick v' 4, pick f' 2 == 1, 1, 0⟩ (by show _ + _ = _ ∨ _ + _ = _; omega) (by show _ + _ = _ ∨ _ + _ = _; omega))
  have HC := fun w => hide (operand_any k v f w hk hv hf)
  have HC' := fun w => hide (operand_any k' v' f' w hk' hv' hf')
  go_enter Try.func7, Try.ntmps7
  go_wp2_with (first
    | (go_at_call 17; (with_reducible refine (HC w).out.mono ?_); rintro e w1 ⟨rfl, hb1⟩)
    | (go_at_call 17; (with_reducible refine (HC' _).out.mono ?_); rintro e w2 ⟨rfl, hb2⟩))
  generalize hW : World.alloc (World.alloc w2 _) _ = W
  have l1 : w1.heap.size < w2.heap.size := by have := hb2.size; simp at this; omega
  have l2 : w2.heap.size + 2 = W.heap.size := by rw [← hW]; simp
  have e1 : W.heap[w1.heap.size]? = some (.cells #[.int .i64 (1 + pick k 2), .int .i64 (pick v 4), .bool (pick f 2 == 1), .int .i64 1, .int .i64 0] 46 (0, 0)) := by
    rw [← hW, Below.heap_alloc _ _ _ (by simp; omega), Below.heap_alloc _ _ _ l1, hb2.block _ (by simp), heap_alloc_new]
  have e2 : W.heap[w2.heap.size]? = some (.cells #[.int .i64 (1 + pick k' 2), .int .i64 (pick v' 4), .bool (pick f' 2 == 1), .int .i64 1, .int .i64 0] 46 (0, 0)) := by
    rw [← hW, Below.heap_alloc _ _ _ (by simp), heap_alloc_new]
  have e3 : W.heap[w2.heap.size + 1]? = some (.cells #[.int .i64 2, .int .i64 0, .bool false, .int .i64 0, .int .i64 0] 46 (0, 0)) := by
    rw [← hW, show w2.heap.size + 1 = (World.alloc w2 (Obj.cells #[.int .i64 (1 + pick k' 2), .int .i64 (pick v' 4), .bool (pick f' 2 == 1), .int .i64 1, .int .i64 0] 46)).heap.size from by simp, heap_alloc_new]
  have hB : Below w.heap.size w W := by
    rw [← hW]
    exact ((((hb1.alloc hb1.size _).trans (hb2.mono (by have := hb1.size; simp; omega))).alloc (by have := hb1.size; omega) _).alloc (by have := hb1.size; simp; omega) _)
  have g1 := grown5 e1
  have g2 := grown5 e2
  have g3 := grown5 e3
  clear e1 e2 e3 hW
  refine wp_region_quiet_below (by kernel_rfl) (by kernel_rfl) ?_
  repeat (quiet_step (first | (with_reducible exact Calls.regrown_of (meet_to _ _ _ _ _ _ _ _ _ _ _ HE.out)) | (with_reducible exact Calls.regrown_of (meet_to (r := true) 2 0 0 0 2 0 0 0 _ _ _ rfl)) | (with_reducible exact Calls.regrown_of (meet_any _ _ _ _ _ _ _ _ _ _ _))))
  refine wpQuiet_nil ?_
  intro _ hw'
  obtain ⟨⟨dq, osq⟩, hw''⟩ := hw'
  subst hw''
  go_wp2
  go_ret
  exact ⟨rfl, hB.trans ((below_regrown W dq osq).mono hB.size)⟩
end Go.Proofs.Ytcniobplligpoaa
