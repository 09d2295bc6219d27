/- slices.Backward's closure hands on a slice's elements from its end on, whatever the rounds do that keeps the slice. -/
import Derived.Test.YtmafghjodghgcaaGreatBack2
import Derived.Shelf.Abstract
import Derived.WalkKit
import Derived.OwnWalkIn
import Derived.TacticsInMore
import Derived.LoopIn
import Derived.Test.YtmafghjodghgcaaGreatProg
namespace Go.Proofs.YtmafghjodghgcaaGreat.Ev
open Go Go.RowKit Go.Shelf
set_option linter.unusedVariables false
attribute [local go_sem] Oper.semAt_some
set_option maxRecDepth 100000 in
set_option maxHeartbeats 2000000 in
theorem iterOk : Iter Tryz.prog 153 := by
  refine ⟨⟨_, Tryz.func153, by kernel_rfl, by kernel_rfl⟩, ?_⟩
  intro box ad N vs m l J W hlen hN hframe hcells hY h0
  obtain ⟨cap0, hbox, _⟩ := hcells 0 W h0
  refine callsIn_of_wp Tryz.func153 rfl trivial ?_ rfl
  simp only [Tryz.ntmps153, List.size_toArray, List.length_cons, List.length_nil, Nat.reduceAdd, Nat.reduceSub, Array.replicate_succ, Array.replicate_zero, List.push_toArray, List.append_toArray, List.nil_append, List.cons_append]
  gi_wp2
  gi_loopw [3] (fun i wr => ∃ k : Nat, k ≤ N ∧ i = .int .i64 ((N : Int) - 1 - (k : Int)) ∧ J k wr) (fun i _ => (intOf i + 1).toNat)
  case atStart => exact ⟨0, Nat.zero_le _, by simp, h0⟩
  case round =>
    obtain ⟨k, hk, rfl, hJs⟩ := hrel
    obtain ⟨cap, hb, hc⟩ := hcells k wr hJs
    by_cases hlt : k < N
    · have hv : ∃ v, vs[N - 1 - k]? = some v := ⟨vs[N - 1 - k], by rw [List.getElem?_eq_getElem (by omega)]⟩
      obtain ⟨v, hv⟩ := hv
      obtain ⟨fn, tmps, assign, body, hy, hR⟩ := hY k v wr hlt hv hJs
      have e1 : ((N - 1 - k : Nat) : Int) = (N : Int) - 1 - (k : Int) := by omega
      rw [e1] at hy
      have e2 : ((N : Int) - 1 - (k : Int)).toNat = N - 1 - k := by omega
      have hcv : wr.cell? (ad.add (((N : Int) - 1 - (k : Int)).toNat)) = some v := by rw [e2]; exact hc _ _ hv
      gi_wp2
      refine hR.mono ?_
      rintro e W3 ⟨rfl, hJ3⟩
      gi_wp2
      go_roundw
      case rel => exact ⟨k + 1, by omega, by simp; omega, hJ3⟩
      case measure => simp [intOf]; omega
    · obtain rfl : k = N := by omega
      gi_wp2
      go_end0
      exact ⟨⟨_, rfl⟩, hJs⟩
end Go.Proofs.YtmafghjodghgcaaGreat.Ev
