/- What picked computes. Conditions: numbers of 64 bits; lists that lie in memory. -/
import Derived.Test.YtmaaalpegnhjcaaDoorProg
import Derived.Test.YtmaaalpegnhjcaaDoorPlain
import Derived.Test.YtmaaalpegnhjcaaDoorData
namespace Go.Proofs.YtmaaalpegnhjcaaDoor
open Go.RowKit
set_option linter.unusedVariables false


set_option maxHeartbeats 400000 in
theorem picked_any (n m : Int) (w : World) (h1 : -9223372036854775808 ≤ n) (h2 : n ≤ 9223372036854775807) (hm : 0 < m) (hm2 : m ≤ 9223372036854775807) :
    Calls Tryd.prog 4 #[.int .i64 n, .int .i64 m] w fun e w' => e = .returned (.int .i64 (pick n m)) ∧ w = w' := by
  by_cases hn : n < 0
  · have H : Hid (-(n + 1).tmod m = pick n m) := by
      show -(n + 1).tmod m = pick n m
      unfold pick; rw [if_pos hn, ← Int.neg_tmod, Int.tmod_eq_emod_of_nonneg (by omega)]
    go_enter Tryd.func4, Tryd.ntmps4
    go_wp2
    go_ret
    exact ⟨ret_int H.out, rfl⟩
  · have H : Hid (n % m = pick n m) := by
      show n % m = pick n m
      unfold pick; rw [if_neg hn]
    go_enter Tryd.func4, Tryd.ntmps4
    go_wp2
    go_ret
    exact ⟨ret_int H.out, rfl⟩
end Go.Proofs.YtmaaalpegnhjcaaDoor
