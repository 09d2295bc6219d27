/- The statement 'MovesTurn': its walk, from the runs of all cases. Conditions: ints of 64 bits; a list that the caller holds. -/
import Derived.Test.YtagnejaajbmfbaaRMovesTurnA
import Derived.Test.YtagnejaajbmfbaaRMovesTurnB
import Derived.Test.YtagnejaajbmfbaaRMovesTurnC
import Derived.Test.YtagnejaajbmfbaaRMovesTurnD
import Derived.Test.YtagnejaajbmfbaaRMovesTurnE
import Derived.Test.YtagnejaajbmfbaaRMovesTurnF
import Derived.Test.YtagnejaajbmfbaaRMovesTurnG
import Derived.Test.YtagnejaajbmfbaaRMovesTurnH
import Derived.Test.YtagnejaajbmfbaaRMovesTurnI
import Derived.Test.YtagnejaajbmfbaaRMovesTurnJ
import Derived.Test.YtagnejaajbmfbaaRMovesTurnK
import Derived.Test.YtagnejaajbmfbaaRMovesTurnL
import Derived.Test.YtagnejaajbmfbaaKit
namespace Go.Proofs.Ytagnejaajbmfbaa
open Go.ChangeShapes Go.WideShapes Go.ChangeAt Go.RowKit
set_option linter.unusedVariables false
section
variable {H : Type} {enc : TypeId × Value → H} {P : Program} {W : World}
theorem open_nums1 {t e : TypeId} {k : IntKind} {v : Value} {d : DataW H} {ps : List MemPlace} {base : Nat} (ht : P.underlying t = some (.slice e)) (he : P.underlying e = some (.int k)) (hc : P.cellsOf e = 1)
    (hv : Value.okWide P W .any base t v) (h : DataW.Trod enc P W 0 (fun _ => true) true t v d ps) :
    ∃ A len cap xs, v = .slice A len cap ∧ xs.length = len ∧ len ≤ cap ∧ (A = none → cap = 0) ∧ Nums k W A xs ∧ (∀ x ∈ xs, (Lit.int k x).wf = true) := by
  obtain ⟨A, len, cap, rfl⟩ := okWide_slice ht hv
  obtain ⟨fuel, hf⟩ := h
  rcases open_ints ht he hc hf with ⟨hcs, _⟩ | ⟨x, l, c, zs, hcs, _, hl, hm, hz, hx, hcell, hwz⟩
  · simp [Value.cells] at hcs
    obtain ⟨rfl, rfl, rfl⟩ := hcs
    exact ⟨_, _, _, [], rfl, rfl, by simp, fun _ => rfl, Nums.nil _ _ _, by simp⟩
  · simp [Value.cells] at hcs
    obtain ⟨rfl, rfl, rfl⟩ := hcs
    have hz' : zs.length = cap := by simpa using hz
    refine ⟨_, _, _, zs.take len, rfl, by simp; omega, by omega, (by intro e; cases e), ?_, fun y hy => hwz y (List.mem_of_mem_take hy)⟩
    intro i hi
    have hi' : i < len := by simp at hi; omega
    have h0 := spot_none (hcell 0 (by omega))
    rw [show x.add 0 = x from by unfold Addr.add; simp] at h0
    refine ⟨x.block, x.off, by rw [← h0], fun j hj => ?_⟩
    have hj' : j < len := by simp at hj; omega
    have hc := hcell j (by omega)
    rw [add_plain j hc (fun _ => trivial)] at hc
    rw [hc]
    simp [List.getElem?_eq_getElem (show j < zs.length by omega)]
end
end Go.Proofs.Ytagnejaajbmfbaa
namespace Go.Proofs.Ytagnejaajbmfbaa.movesTurn
open Go Go.RowKit Go.Proofs.Ytagnejaajbmfbaa.Ev
set_option linter.unusedVariables false
theorem cell_block {w : World} {b k : Nat} {u : Value} (h : w.cell? ⟨b, k, none⟩ = some u) : ∃ c e fr, w.heap[b]? = some (.cells c e fr) ∧ c[k]? = some u := by
  unfold World.cell? at h
  simp only at h
  split at h
  · rename_i c e fr hb
    exact ⟨c, _, _, hb, by simpa using h⟩
  · cases h
/-- all blocks of a world as they are -/
def allK (W : World) (b : Nat) : Option (Array Value) := match W.heap[b]? with
  | some (.cells c e fr) => some c
  | _ => none
theorem allK_ok (W : World) : ConOk (allK W) W := fun b cs h => by
  unfold allK at h
  split at h
  · rename_i c e fr hb
    cases h
    exact ⟨(e, fr), hb⟩
  · cases h
theorem symr_len : ∀ (n k : Nat), (symr n k).length = n
  | 0, _ => rfl
  | n + 1, k => congrArg (· + 1) (symr_len n (k + 1))
theorem symr_get : ∀ (n k i : Nat) (r : List SV), (symr n k)[i]? = some r → i < n ∧ r = [.sym (.arg (k + i))]
  | 0, k, i, r, h => by cases i <;> cases h
  | n + 1, k, 0, r, h => by
    have h' : some [SV.sym (.arg k)] = some r := h
    cases h'
    exact ⟨by omega, rfl⟩
  | n + 1, k, i + 1, r, h => by
    have h' : (symr n (k + 1))[i]? = some r := h
    obtain ⟨h1, h2⟩ := symr_get n (k + 1) i r h'
    exact ⟨by omega, by rw [h2, show k + 1 + i = k + (i + 1) by omega]⟩
theorem symr_app : ∀ (n m k : Nat), symr (n + m) k = lapp (symr n k) (symr m (k + n))
  | 0, m, k => by rw [Nat.zero_add]; rfl
  | n + 1, m, k => by
    rw [show n + 1 + m = (n + m) + 1 by omega]
    show [SV.sym (.arg k)] :: symr (n + m) (k + 1) = [SV.sym (.arg k)] :: lapp (symr n (k + 1)) (symr m (k + (n + 1)))
    rw [symr_app n m (k + 1), show k + 1 + n = k + (n + 1) by omega]
theorem ints_sym {W : World} {A2 : Option Addr} {len cap : Nat} {xs : List Int} (hl : xs.length = len) (hc : len ≤ cap) (hA : A2 = none → cap = 0) (hr : Nums .i64 W A2 xs) :
    ∃ X : SV, ((X = .nilSlice) ∨ X = .lst (symr len 3)) ∧ ∀ A : Nat → Int, (∀ (i : Nat) (x : Int), xs[i]? = some x → A (3 + i) = x) → cS A (kPhi (allK W)) X (.slice A2 len cap) := by
  subst hl
  cases xs with
  | nil =>
    cases A2 with
    | none => rw [hA rfl]; exact ⟨.nilSlice, .inl rfl, fun A _ => rfl⟩
    | some ad => exact ⟨.lst [], .inr rfl, fun A _ => .lst0 ad cap⟩
  | cons x0 xs =>
    obtain ⟨b, off, rfl, hcell⟩ := hr 0 (by simp)
    have h0 := hcell 0 (by simp)
    obtain ⟨cs, ty, fr, hb, _⟩ := cell_block h0
    have hget : ∀ (i : Nat) (n : Int), (x0 :: xs)[i]? = some n → cs[off + i]? = some (.int .i64 n) := fun i n h1 => by
      obtain ⟨h2, h3⟩ := List.getElem?_eq_some_iff.1 h1
      obtain ⟨cs', ty', fr', hb', h4⟩ := cell_block (hcell i h2)
      rw [hb] at hb'
      cases hb'
      rw [h4, h3]
    refine ⟨.lst (symr (x0 :: xs).length 3), .inr rfl, fun A hA => ?_⟩
    have one : ∀ (i j : Nat) (r : List SV) (y : SV), (symr (x0 :: xs).length 3)[i]? = some r → r[j]? = some y → y = .sym (.arg (3 + i)) ∧ cs[off + i * 1 + j]? = some (.int .i64 (A (3 + i))) := fun i j r y h1 h2 => by
      obtain ⟨h3, rfl⟩ := symr_get _ _ _ _ h1
      have e := List.getElem?_eq_getElem h3
      match j, h2 with
      | 0, h2 => cases h2; exact ⟨rfl, by rw [Nat.mul_one, Nat.add_zero, hA i _ e]; exact hget i _ e⟩
    have hrl : (symr (x0 :: xs).length 3).length = (x0 :: xs).length := symr_len _ _
    have key : cD A (kPhi (allK W)).k (.lst (symr (x0 :: xs).length 3)) (.slice (some ⟨b, off, none⟩) (symr (x0 :: xs).length 3).length cap) := by
      refine cD.lst _ b off cap 1 cs (fun i j => (cs[off + i * 1 + j]?).getD (.bool false)) ?_ (by rw [hrl]; exact hc) (fun i r h => ?_) (fun i j r y h1 h2 => ?_) (fun i j r y h1 h2 => ?_)
      · show allK W b = some cs
        unfold allK
        rw [hb]
      · obtain ⟨_, rfl⟩ := symr_get _ _ _ _ h
        rfl
      · obtain ⟨_, h3⟩ := one i j r y h1 h2
        rw [h3]; rfl
      · obtain ⟨rfl, h3⟩ := one i j r y h1 h2
        simp only [h3, Option.getD_some]
        exact .sym _
    rw [hrl] at key
    exact key
theorem c_0_0 (n : Nat) (X : SV) (h : X = .nilSlice ∨ X = .lst (symr n 3)) : R 0 0 X = true := by
  rcases h with rfl | rfl
  · exact n_0_0
  by_cases h : n < 65
  · rcases (by omega : 0 ≤ n ∧ n < 13 ∨ 13 ≤ n ∧ n < 26 ∨ 26 ≤ n ∧ n < 39 ∨ 39 ≤ n ∧ n < 52 ∨ 52 ≤ n ∧ n < 65) with h | h | h | h | h
    · exact fromN_all 13 0 g_0_0_0 n h.1 (by omega)
    · exact fromN_all 13 13 g_0_0_13 n h.1 (by omega)
    · exact fromN_all 13 26 g_0_0_26 n h.1 (by omega)
    · exact fromN_all 13 39 g_0_0_39 n h.1 (by omega)
    · exact fromN_all 13 52 g_0_0_52 n h.1 (by omega)
  · obtain ⟨m, rfl⟩ : ∃ m, n = 65 + m := ⟨n - 65, by omega⟩
    rw [symr_app]
    exact o_0_0 _
theorem c_0_1 (n : Nat) (X : SV) (h : X = .nilSlice ∨ X = .lst (symr n 3)) : R 0 1 X = true := by
  rcases h with rfl | rfl
  · exact n_0_1
  by_cases h : n < 65
  · rcases (by omega : 0 ≤ n ∧ n < 13 ∨ 13 ≤ n ∧ n < 26 ∨ 26 ≤ n ∧ n < 39 ∨ 39 ≤ n ∧ n < 52 ∨ 52 ≤ n ∧ n < 65) with h | h | h | h | h
    · exact fromN_all 13 0 g_0_1_0 n h.1 (by omega)
    · exact fromN_all 13 13 g_0_1_13 n h.1 (by omega)
    · exact fromN_all 13 26 g_0_1_26 n h.1 (by omega)
    · exact fromN_all 13 39 g_0_1_39 n h.1 (by omega)
    · exact fromN_all 13 52 g_0_1_52 n h.1 (by omega)
  · obtain ⟨m, rfl⟩ : ∃ m, n = 65 + m := ⟨n - 65, by omega⟩
    rw [symr_app]
    exact o_0_1 _
theorem c_0_2 (n : Nat) (X : SV) (h : X = .nilSlice ∨ X = .lst (symr n 3)) : R 0 2 X = true := by
  rcases h with rfl | rfl
  · exact n_0_2
  by_cases h : n < 65
  · rcases (by omega : 0 ≤ n ∧ n < 13 ∨ 13 ≤ n ∧ n < 26 ∨ 26 ≤ n ∧ n < 39 ∨ 39 ≤ n ∧ n < 52 ∨ 52 ≤ n ∧ n < 65) with h | h | h | h | h
    · exact fromN_all 13 0 g_0_2_0 n h.1 (by omega)
    · exact fromN_all 13 13 g_0_2_13 n h.1 (by omega)
    · exact fromN_all 13 26 g_0_2_26 n h.1 (by omega)
    · exact fromN_all 13 39 g_0_2_39 n h.1 (by omega)
    · exact fromN_all 13 52 g_0_2_52 n h.1 (by omega)
  · obtain ⟨m, rfl⟩ : ∃ m, n = 65 + m := ⟨n - 65, by omega⟩
    rw [symr_app]
    exact o_0_2 _
theorem c_1_0 (n : Nat) (X : SV) (h : X = .nilSlice ∨ X = .lst (symr n 3)) : R 1 0 X = true := by
  rcases h with rfl | rfl
  · exact n_1_0
  by_cases h : n < 65
  · rcases (by omega : 0 ≤ n ∧ n < 13 ∨ 13 ≤ n ∧ n < 26 ∨ 26 ≤ n ∧ n < 39 ∨ 39 ≤ n ∧ n < 52 ∨ 52 ≤ n ∧ n < 65) with h | h | h | h | h
    · exact fromN_all 13 0 g_1_0_0 n h.1 (by omega)
    · exact fromN_all 13 13 g_1_0_13 n h.1 (by omega)
    · exact fromN_all 13 26 g_1_0_26 n h.1 (by omega)
    · exact fromN_all 13 39 g_1_0_39 n h.1 (by omega)
    · exact fromN_all 13 52 g_1_0_52 n h.1 (by omega)
  · obtain ⟨m, rfl⟩ : ∃ m, n = 65 + m := ⟨n - 65, by omega⟩
    rw [symr_app]
    exact o_1_0 _
theorem c_1_1 (n : Nat) (X : SV) (h : X = .nilSlice ∨ X = .lst (symr n 3)) : R 1 1 X = true := by
  rcases h with rfl | rfl
  · exact n_1_1
  by_cases h : n < 65
  · rcases (by omega : 0 ≤ n ∧ n < 13 ∨ 13 ≤ n ∧ n < 26 ∨ 26 ≤ n ∧ n < 39 ∨ 39 ≤ n ∧ n < 52 ∨ 52 ≤ n ∧ n < 65) with h | h | h | h | h
    · exact fromN_all 13 0 g_1_1_0 n h.1 (by omega)
    · exact fromN_all 13 13 g_1_1_13 n h.1 (by omega)
    · exact fromN_all 13 26 g_1_1_26 n h.1 (by omega)
    · exact fromN_all 13 39 g_1_1_39 n h.1 (by omega)
    · exact fromN_all 13 52 g_1_1_52 n h.1 (by omega)
  · obtain ⟨m, rfl⟩ : ∃ m, n = 65 + m := ⟨n - 65, by omega⟩
    rw [symr_app]
    exact o_1_1 _
theorem c_1_2 (n : Nat) (X : SV) (h : X = .nilSlice ∨ X = .lst (symr n 3)) : R 1 2 X = true := by
  rcases h with rfl | rfl
  · exact n_1_2
  by_cases h : n < 65
  · rcases (by omega : 0 ≤ n ∧ n < 13 ∨ 13 ≤ n ∧ n < 26 ∨ 26 ≤ n ∧ n < 39 ∨ 39 ≤ n ∧ n < 52 ∨ 52 ≤ n ∧ n < 65) with h | h | h | h | h
    · exact fromN_all 13 0 g_1_2_0 n h.1 (by omega)
    · exact fromN_all 13 13 g_1_2_13 n h.1 (by omega)
    · exact fromN_all 13 26 g_1_2_26 n h.1 (by omega)
    · exact fromN_all 13 39 g_1_2_39 n h.1 (by omega)
    · exact fromN_all 13 52 g_1_2_52 n h.1 (by omega)
  · obtain ⟨m, rfl⟩ : ∃ m, n = 65 + m := ⟨n - 65, by omega⟩
    rw [symr_app]
    exact o_1_2 _
theorem c_2_0 (n : Nat) (X : SV) (h : X = .nilSlice ∨ X = .lst (symr n 3)) : R 2 0 X = true := by
  rcases h with rfl | rfl
  · exact n_2_0
  by_cases h : n < 65
  · rcases (by omega : 0 ≤ n ∧ n < 13 ∨ 13 ≤ n ∧ n < 26 ∨ 26 ≤ n ∧ n < 39 ∨ 39 ≤ n ∧ n < 52 ∨ 52 ≤ n ∧ n < 65) with h | h | h | h | h
    · exact fromN_all 13 0 g_2_0_0 n h.1 (by omega)
    · exact fromN_all 13 13 g_2_0_13 n h.1 (by omega)
    · exact fromN_all 13 26 g_2_0_26 n h.1 (by omega)
    · exact fromN_all 13 39 g_2_0_39 n h.1 (by omega)
    · exact fromN_all 13 52 g_2_0_52 n h.1 (by omega)
  · obtain ⟨m, rfl⟩ : ∃ m, n = 65 + m := ⟨n - 65, by omega⟩
    rw [symr_app]
    exact o_2_0 _
theorem c_2_1 (n : Nat) (X : SV) (h : X = .nilSlice ∨ X = .lst (symr n 3)) : R 2 1 X = true := by
  rcases h with rfl | rfl
  · exact n_2_1
  by_cases h : n < 65
  · rcases (by omega : 0 ≤ n ∧ n < 13 ∨ 13 ≤ n ∧ n < 26 ∨ 26 ≤ n ∧ n < 39 ∨ 39 ≤ n ∧ n < 52 ∨ 52 ≤ n ∧ n < 65) with h | h | h | h | h
    · exact fromN_all 13 0 g_2_1_0 n h.1 (by omega)
    · exact fromN_all 13 13 g_2_1_13 n h.1 (by omega)
    · exact fromN_all 13 26 g_2_1_26 n h.1 (by omega)
    · exact fromN_all 13 39 g_2_1_39 n h.1 (by omega)
    · exact fromN_all 13 52 g_2_1_52 n h.1 (by omega)
  · obtain ⟨m, rfl⟩ : ∃ m, n = 65 + m := ⟨n - 65, by omega⟩
    rw [symr_app]
    exact o_2_1 _
theorem c_2_2 (n : Nat) (X : SV) (h : X = .nilSlice ∨ X = .lst (symr n 3)) : R 2 2 X = true := by
  rcases h with rfl | rfl
  · exact n_2_2
  by_cases h : n < 65
  · rcases (by omega : 0 ≤ n ∧ n < 13 ∨ 13 ≤ n ∧ n < 26 ∨ 26 ≤ n ∧ n < 39 ∨ 39 ≤ n ∧ n < 52 ∨ 52 ≤ n ∧ n < 65) with h | h | h | h | h
    · exact fromN_all 13 0 g_2_2_0 n h.1 (by omega)
    · exact fromN_all 13 13 g_2_2_13 n h.1 (by omega)
    · exact fromN_all 13 26 g_2_2_26 n h.1 (by omega)
    · exact fromN_all 13 39 g_2_2_39 n h.1 (by omega)
    · exact fromN_all 13 52 g_2_2_52 n h.1 (by omega)
  · obtain ⟨m, rfl⟩ : ∃ m, n = 65 + m := ⟨n - 65, by omega⟩
    rw [symr_app]
    exact o_2_2 _
theorem c_3_0 (n : Nat) (X : SV) (h : X = .nilSlice ∨ X = .lst (symr n 3)) : R 3 0 X = true := by
  rcases h with rfl | rfl
  · exact n_3_0
  by_cases h : n < 65
  · rcases (by omega : 0 ≤ n ∧ n < 13 ∨ 13 ≤ n ∧ n < 26 ∨ 26 ≤ n ∧ n < 39 ∨ 39 ≤ n ∧ n < 52 ∨ 52 ≤ n ∧ n < 65) with h | h | h | h | h
    · exact fromN_all 13 0 g_3_0_0 n h.1 (by omega)
    · exact fromN_all 13 13 g_3_0_13 n h.1 (by omega)
    · exact fromN_all 13 26 g_3_0_26 n h.1 (by omega)
    · exact fromN_all 13 39 g_3_0_39 n h.1 (by omega)
    · exact fromN_all 13 52 g_3_0_52 n h.1 (by omega)
  · obtain ⟨m, rfl⟩ : ∃ m, n = 65 + m := ⟨n - 65, by omega⟩
    rw [symr_app]
    exact o_3_0 _
theorem c_3_1 (n : Nat) (X : SV) (h : X = .nilSlice ∨ X = .lst (symr n 3)) : R 3 1 X = true := by
  rcases h with rfl | rfl
  · exact n_3_1
  by_cases h : n < 65
  · rcases (by omega : 0 ≤ n ∧ n < 13 ∨ 13 ≤ n ∧ n < 26 ∨ 26 ≤ n ∧ n < 39 ∨ 39 ≤ n ∧ n < 52 ∨ 52 ≤ n ∧ n < 65) with h | h | h | h | h
    · exact fromN_all 13 0 g_3_1_0 n h.1 (by omega)
    · exact fromN_all 13 13 g_3_1_13 n h.1 (by omega)
    · exact fromN_all 13 26 g_3_1_26 n h.1 (by omega)
    · exact fromN_all 13 39 g_3_1_39 n h.1 (by omega)
    · exact fromN_all 13 52 g_3_1_52 n h.1 (by omega)
  · obtain ⟨m, rfl⟩ : ∃ m, n = 65 + m := ⟨n - 65, by omega⟩
    rw [symr_app]
    exact o_3_1 _
theorem c_3_2 (n : Nat) (X : SV) (h : X = .nilSlice ∨ X = .lst (symr n 3)) : R 3 2 X = true := by
  rcases h with rfl | rfl
  · exact n_3_2
  by_cases h : n < 65
  · rcases (by omega : 0 ≤ n ∧ n < 13 ∨ 13 ≤ n ∧ n < 26 ∨ 26 ≤ n ∧ n < 39 ∨ 39 ≤ n ∧ n < 52 ∨ 52 ≤ n ∧ n < 65) with h | h | h | h | h
    · exact fromN_all 13 0 g_3_2_0 n h.1 (by omega)
    · exact fromN_all 13 13 g_3_2_13 n h.1 (by omega)
    · exact fromN_all 13 26 g_3_2_26 n h.1 (by omega)
    · exact fromN_all 13 39 g_3_2_39 n h.1 (by omega)
    · exact fromN_all 13 52 g_3_2_52 n h.1 (by omega)
  · obtain ⟨m, rfl⟩ : ∃ m, n = 65 + m := ⟨n - 65, by omega⟩
    rw [symr_app]
    exact o_3_2 _
theorem c_0 (n : Nat) (X : SV) (h : X = .nilSlice ∨ X = .lst (symr n 3)) : ∀ b : Nat, b < 3 → R 0 b X = true
  | 0, _ => c_0_0 n X h
  | 1, _ => c_0_1 n X h
  | 2, _ => c_0_2 n X h
  | n + 3, h => absurd h (by omega)
theorem c_1 (n : Nat) (X : SV) (h : X = .nilSlice ∨ X = .lst (symr n 3)) : ∀ b : Nat, b < 3 → R 1 b X = true
  | 0, _ => c_1_0 n X h
  | 1, _ => c_1_1 n X h
  | 2, _ => c_1_2 n X h
  | n + 3, h => absurd h (by omega)
theorem c_2 (n : Nat) (X : SV) (h : X = .nilSlice ∨ X = .lst (symr n 3)) : ∀ b : Nat, b < 3 → R 2 b X = true
  | 0, _ => c_2_0 n X h
  | 1, _ => c_2_1 n X h
  | 2, _ => c_2_2 n X h
  | n + 3, h => absurd h (by omega)
theorem c_3 (n : Nat) (X : SV) (h : X = .nilSlice ∨ X = .lst (symr n 3)) : ∀ b : Nat, b < 3 → R 3 b X = true
  | 0, _ => c_3_0 n X h
  | 1, _ => c_3_1 n X h
  | 2, _ => c_3_2 n X h
  | n + 3, h => absurd h (by omega)
theorem c (n : Nat) (X : SV) (h : X = .nilSlice ∨ X = .lst (symr n 3)) : ∀ a : Nat, a < 4 → ∀ b : Nat, b < 3 → R a b X = true
  | 0, _ => c_0 n X h
  | 1, _ => c_1 n X h
  | 2, _ => c_2 n X h
  | 3, _ => c_3 n X h
  | n + 4, h => absurd h (by omega)
theorem movesTurn_walk (W : World) (a0 : Int) (h0 : In64 a0) (a1 : Int) (h1 : In64 a1) (a2 : Int) (h2 : In64 a2) (A2 : Option Addr) (len cap : Nat) (xs : List Int) (hl : xs.length = len) (hc : len ≤ cap) (hA : A2 = none → cap = 0) (hn : Nums .i64 W A2 xs) (hw : ∀ x ∈ xs, In64 x) : Calls Try.prog 3 #[.int .i64 a0, .int .i64 a1, .int .i64 a2, .slice A2 len cap] W fun e w' => e = .returned (.bool true) ∧ Below W.heap.size W w' := by
  obtain ⟨r0, l0, e0⟩ := pick_case a0 4 (by omega)
  obtain ⟨r1, l1, e1⟩ := pick_case a1 3 (by omega)
  obtain ⟨X, hX, hS⟩ := ints_sym hl hc hA hn
  have hr := c len X hX r0 l0 r1 l1
  refine run_true (withT_env (withT_env (envM (A := fun i => match i with | 0 => a0 | 1 => a1 | 2 => a2 | i + 3 => xs.getD i 0) ?_) ok0) ok1) hr (allK_ok W) _ ?_
  · intro i m r hm
    simp only [List.mem_cons, List.not_mem_nil, or_false, Prod.mk.injEq] at hm
    rcases hm with ⟨⟨rfl, rfl⟩, rfl⟩ | ⟨⟨rfl, rfl⟩, rfl⟩
    · exact ⟨h0, by simp only [Int.ofNat_eq_natCast]; omega, by simp only [Int.ofNat_eq_natCast]; omega, e0⟩
    · exact ⟨h1, by simp only [Int.ofNat_eq_natCast]; omega, by simp only [Int.ofNat_eq_natCast]; omega, e1⟩
  · refine .cons rfl (.cons rfl (.cons rfl (.cons (hS _ (fun i x h => ?_)) .nil)))
    show (match 3 + i with | 0 => a0 | 1 => a1 | 2 => a2 | i + 3 => xs.getD i 0) = x
    rw [Nat.add_comm 3 i]
    show xs.getD i 0 = x
    rw [List.getD_eq_getElem?_getD, h]
    rfl
end Go.Proofs.Ytagnejaajbmfbaa.movesTurn
