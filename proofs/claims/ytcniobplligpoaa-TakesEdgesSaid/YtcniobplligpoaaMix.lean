/- What the program's small functions of numbers compute: picked, Machine, run.Mix. Conditions: numbers of 64 bits; lists that lie in memory. -/
import Derived.Test.YtcniobplligpoaaProg
import Derived.Test.YtcniobplligpoaaPlain
import Derived.Test.YtcniobplligpoaaData
namespace Go.Proofs.Ytcniobplligpoaa
open Go.RowKit
set_option linter.unusedVariables false


set_option maxHeartbeats 400000 in
theorem picked_any (n m : Int) (w : World) (h1 : -9223372036854775808 ≤ n) (h2 : n ≤ 9223372036854775807) (hm : 0 < m) (hm2 : m ≤ 9223372036854775807) :
    Calls Try.prog 15 #[.int .i64 n, .int .i64 m] w fun e w' => e = .returned (.int .i64 (pick n m)) ∧ w = w' := by
  by_cases hn : n < 0
  · have H : Hid (-(n + 1).tmod m = pick n m) := by
      show -(n + 1).tmod m = pick n m
      unfold pick; rw [if_pos hn, ← Int.neg_tmod, Int.tmod_eq_emod_of_nonneg (by omega)]
    go_enter Try.func15, Try.ntmps15
    go_wp2
    go_ret
    exact ⟨ret_int H.out, rfl⟩
  · have H : Hid (n % m = pick n m) := by
      show n % m = pick n m
      unfold pick; rw [if_neg hn]
    go_enter Try.func15, Try.ntmps15
    go_wp2
    go_ret
    exact ⟨ret_int H.out, rfl⟩
set_option maxHeartbeats 400000 in
theorem mix_any (A : Option Addr) (n cap : Nat) (xs : List Int) (w : World) (h : Nums .i64 w A xs) (hn : xs.length = n) (hm : n ≤ 9223372036854775807) :
    Calls Try.prog 14 #[.slice A n cap] w fun e w' => e = .returned (.int .i64 (mix xs)) ∧ w = w' := by
  have hle : n ≤ xs.length := by omega
  have hge : xs.length ≤ n := by omega
  clear hn
  go_enter Try.func14, Try.ntmps14
  go_wp2
  go_loop [3, 8] (fun x i => ∃ k : Nat, k ≤ n ∧ i = .int .i64 k ∧ x = .int .i64 (mix (xs.take k))) (fun _ i => n - (intOf i).toNat)
  case atStart => exact ⟨0, by omega, rfl, rfl⟩
  case round =>
    obtain ⟨k, hk, rfl, rfl⟩ := hrel
    have hb := mix_bd (xs.take k)
    by_cases hlt : k < n
    · obtain ⟨b, off, rfl, hc⟩ := h k (by omega)
      have hcell := hc k (by omega)
      have ht := tmod_lo xs[k]
      have HS : Hid (mix (xs.take (k + 1)) = (mix (xs.take k) * 31 + (xs[k]).tmod 1000003 + 1000003) % 1000003) := by
        show _ = _; rw [take_snoc xs k (by omega), mix_snoc]; rfl
      clear hc h
      go_wp2
      go_round
      case rel => exact ⟨k + 1, by omega, by go_num, by rw [HS.out]⟩
      case measure => simp [intOf]; omega
    · have HS : Hid (xs.take k = xs) := List.take_of_length_le (by omega)
      clear h
      go_wp2
      go_ret
      exact ⟨ret_int (congrArg mix HS.out), rfl⟩
theorem mix_to {r : Int} (A : Option Addr) (n cap : Nat) (xs : List Int) (w : World) (h : Nums .i64 w A xs) (hn : xs.length = n) (hm : n ≤ 9223372036854775807) (hr : mix xs = r) :
    Calls Try.prog 14 #[.slice A n cap] w fun e w' => e = .returned (.int .i64 r) ∧ w = w' := by
  subst hr; exact mix_any A n cap xs w h hn hm
end Go.Proofs.Ytcniobplligpoaa
