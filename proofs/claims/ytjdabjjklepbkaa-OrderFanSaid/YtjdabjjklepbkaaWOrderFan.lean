/- The statement 'OrderFan': its walk, from the runs of all cases. Conditions: ints of 64 bits. -/
import Derived.Test.YtjdabjjklepbkaaROrderFanA
import Derived.Test.YtjdabjjklepbkaaROrderFanB
import Derived.Test.YtjdabjjklepbkaaROrderFanC
import Derived.Test.YtjdabjjklepbkaaROrderFanD
import Derived.Test.YtjdabjjklepbkaaROrderFanE
import Derived.Test.YtjdabjjklepbkaaROrderFanF
import Derived.Test.YtjdabjjklepbkaaROrderFanG
import Derived.Test.YtjdabjjklepbkaaROrderFanH
namespace Go.Proofs.Ytjdabjjklepbkaa.orderFan
open Go Go.RowKit Go.Proofs.Ytjdabjjklepbkaa.Ev
set_option linter.unusedVariables false
theorem c_0 : ∀ n : Nat, n < (2 + 0) → up 6 (fun k => R 0 n k) = true
  | 0, _ => g_0_0
  | 1, _ => g_0_1
  | n + 2, h => absurd h (by omega)
theorem c_1 : ∀ n : Nat, n < (2 + 1) → up 6 (fun k => R 1 n k) = true
  | 0, _ => g_1_0
  | 1, _ => g_1_1
  | 2, _ => g_1_2
  | n + 3, h => absurd h (by omega)
theorem c_2 : ∀ n : Nat, n < (2 + 2) → up 6 (fun k => R 2 n k) = true
  | 0, _ => g_2_0
  | 1, _ => g_2_1
  | 2, _ => g_2_2
  | 3, _ => g_2_3
  | n + 4, h => absurd h (by omega)
theorem c_3 : ∀ n : Nat, n < (2 + 3) → up 6 (fun k => R 3 n k) = true
  | 0, _ => g_3_0
  | 1, _ => g_3_1
  | 2, _ => g_3_2
  | 3, _ => g_3_3
  | 4, _ => g_3_4
  | n + 5, h => absurd h (by omega)
theorem c_4 : ∀ n : Nat, n < (2 + 4) → up 6 (fun k => R 4 n k) = true
  | 0, _ => g_4_0
  | 1, _ => g_4_1
  | 2, _ => g_4_2
  | 3, _ => g_4_3
  | 4, _ => g_4_4
  | 5, _ => g_4_5
  | n + 6, h => absurd h (by omega)
theorem c_5 : ∀ n : Nat, n < (2 + 5) → up 6 (fun k => R 5 n k) = true
  | 0, _ => g_5_0
  | 1, _ => g_5_1
  | 2, _ => g_5_2
  | 3, _ => g_5_3
  | 4, _ => g_5_4
  | 5, _ => g_5_5
  | 6, _ => g_5_6
  | n + 7, h => absurd h (by omega)
theorem c_6 : ∀ n : Nat, n < (2 + 6) → up 6 (fun k => R 6 n k) = true
  | 0, _ => g_6_0
  | 1, _ => g_6_1
  | 2, _ => g_6_2
  | 3, _ => g_6_3
  | 4, _ => g_6_4
  | 5, _ => g_6_5
  | 6, _ => g_6_6
  | 7, _ => g_6_7
  | n + 8, h => absurd h (by omega)
theorem c_7 : ∀ n : Nat, n < (2 + 7) → up 6 (fun k => R 7 n k) = true
  | 0, _ => g_7_0
  | 1, _ => g_7_1
  | 2, _ => g_7_2
  | 3, _ => g_7_3
  | 4, _ => g_7_4
  | 5, _ => g_7_5
  | 6, _ => g_7_6
  | 7, _ => g_7_7
  | 8, _ => g_7_8
  | n + 9, h => absurd h (by omega)
theorem c_8 : ∀ n : Nat, n < (2 + 8) → up 6 (fun k => R 8 n k) = true
  | 0, _ => g_8_0
  | 1, _ => g_8_1
  | 2, _ => g_8_2
  | 3, _ => g_8_3
  | 4, _ => g_8_4
  | 5, _ => g_8_5
  | 6, _ => g_8_6
  | 7, _ => g_8_7
  | 8, _ => g_8_8
  | 9, _ => g_8_9
  | n + 10, h => absurd h (by omega)
theorem c : ∀ a : Nat, a < 9 → ∀ n : Nat, n < (2 + a) → up 6 (fun k => R a n k) = true
  | 0, _ => c_0
  | 1, _ => c_1
  | 2, _ => c_2
  | 3, _ => c_3
  | 4, _ => c_4
  | 5, _ => c_5
  | 6, _ => c_6
  | 7, _ => c_7
  | 8, _ => c_8
  | n + 9, h => absurd h (by omega)
theorem orderFan_walk (W : World) (a0 : Int) (h0 : In64 a0) (a1 : Int) (h1 : In64 a1) (a2 : Int) (h2 : In64 a2) : Calls Try.prog 6 #[.int .i64 a0, .int .i64 a1, .int .i64 a2] W fun e w' => e = .returned (.bool true) ∧ Below W.heap.size W w' := by
  obtain ⟨r0, l0, e0⟩ := pick_case a0 9 (by omega)
  obtain ⟨r1, l1, e1⟩ := pick_case a1 (2 + r0) (by omega)
  obtain ⟨r2, l2, e2⟩ := pick_case a2 6 (by omega)
  have hr := (up_all ((c r0 l0) r1 l1) r2 l2)
  refine run_true (env (A := fun i => match i with | 0 => a0 | 1 => a1 | 2 => a2 | _ => 0) ?_) hr W _ ?_
  · intro i m r hm
    simp only [List.mem_cons, List.not_mem_nil, or_false, Prod.mk.injEq] at hm
    rcases hm with ⟨⟨rfl, rfl⟩, rfl⟩ | ⟨⟨rfl, rfl⟩, rfl⟩ | ⟨⟨rfl, rfl⟩, rfl⟩
    · exact ⟨h0, by simp only [Int.ofNat_eq_natCast]; omega, by simp only [Int.ofNat_eq_natCast]; omega, e0⟩
    · exact ⟨h1, by simp only [Int.ofNat_eq_natCast]; omega, by simp only [Int.ofNat_eq_natCast]; omega, e1⟩
    · exact ⟨h2, by simp only [Int.ofNat_eq_natCast]; omega, by simp only [Int.ofNat_eq_natCast]; omega, e2⟩
  · exact (.cons rfl (.cons rfl (.cons rfl .nil)))
end Go.Proofs.Ytjdabjjklepbkaa.orderFan
