/- How a law's arguments read: lists of numbers, and lists of structs of numbers, as they lie in memory, each number within its kind. Conditions: the types' own rows of the table. -/
import Derived.WalkKit
import Derived.ProofKit
import Derived.OpenShut
import Derived.ShutString
import Derived.ChangeOld
import Derived.SizedLaws
import Derived.Deep.Slices
import Derived.Deep.Fields
import Derived.ChangeSame
import Derived.Deep.Draws
namespace Go.Proofs.YtmaaalpegnhjcaaDoor
open Go.ChangeShapes Go.WideShapes Go.ChangeAt Go.RowKit
set_option linter.unusedVariables false

/-- A slice value that reads as a list of ints of a kind. -/
def Nums (k : IntKind) (w : World) (A : Option Addr) (xs : List Int) : Prop :=
  ∀ i (_ : i < xs.length), ∃ b off, A = some ⟨b, off, none⟩ ∧ ∀ i (h : i < xs.length), w.cell? ⟨b, off + i, none⟩ = some (.int k xs[i])
theorem Nums.nil (k : IntKind) (w : World) (A : Option Addr) : Nums k w A [] := fun _ h => absurd h (by simp)
theorem Nums.keep {k : IntKind} {w w' : World} {A : Option Addr} {xs : List Int} (h : Nums k w A xs) (hk : Below w.heap.size w w') : Nums k w' A xs := by
  intro i hi
  obtain ⟨b, off, rfl, hc⟩ := h i hi
  refine ⟨b, off, rfl, fun j hj => ?_⟩
  have := hc j hj
  rw [← this]
  refine hk.cell ?_
  rcases Nat.lt_or_ge b w.heap.size with h1 | h1
  · exact h1
  · rw [World.cell?, Array.getElem?_eq_none (by exact h1)] at this; cases this

theorem ret_int {k : IntKind} {a b : Int} (h : a = b) : Ending.returned (.int k a) = .returned (.int k b) := by rw [h]
theorem ret_bool {a b : Bool} (h : a = b) : Ending.returned (.bool a) = .returned (.bool b) := by rw [h]
theorem is_or (k c : Int) : k = c ∨ (k ≠ c ∧ (k != c) = true ∧ (k == c) = false) := by
  by_cases h : k = c
  · exact .inl h
  · exact .inr ⟨h, by rw [bne_iff_ne]; exact h, by rw [beq_eq_false_iff_ne]; exact h⟩
theorem hide {p : Prop} (h : p) : Hid p := h
theorem belowN {B : Nat} {a w : World} (h : Below B a w) (n : Nat) : Below B a (w.drewN n) := ⟨h.os, h.tape, h.output, h.size, h.block⟩
/-- bounds of int64 -/
def In64 (n : Int) : Prop := -9223372036854775808 ≤ n ∧ n ≤ 9223372036854775807
theorem in64_of_wf {n : Int} (h : (Lit.int .i64 n).wf = true) : In64 n := by
  unfold In64; simpa [Lit.wf, IntKind.min, IntKind.max, IntKind.signed, IntKind.bits] using h

theorem spot_none {w : World} {x : Addr} {v : Value} (h : w.cell? x = some v) : x = ⟨x.block, x.off, none⟩ := by
  obtain ⟨b, o, s⟩ := x
  cases s with
  | none => rfl
  | some _ =>
    rw [World.cell?] at h
    simp only [Option.isSome_some, if_true] at h
    split at h <;> simp at h
theorem add_plain {w : World} {x : Addr} {v : Value} (i : Nat) (h : w.cell? (x.add i) = some v) (h0 : i = 0 → True) : x.add i = ⟨x.block, x.off + i, none⟩ := by
  unfold Addr.add at h ⊢
  split
  · rename_i hi; subst hi; simp only [if_true] at h; exact spot_none h
  · rfl

section
variable {H : Type} {enc : TypeId × Value → H} {P : Program} {W : World}
theorem open_nums {t e : TypeId} {k : IntKind} {v : Value} {d : DataW H} {ps : List MemPlace} {base : Nat} (ht : P.underlying t = some (.slice e)) (he : P.underlying e = some (.int k)) (hc : P.cellsOf e = 1)
    (hv : Value.okWide P W .any base t v) (h : DataW.Trod enc P W 0 (fun _ => true) true t v d ps) :
    ∃ A len cap xs, v = .slice A len cap ∧ xs.length = len ∧ len ≤ maxLen ∧ Nums k W A xs ∧ (∀ x ∈ xs, (Lit.int k x).wf = true) ∧
      ∀ (r : Nat) (_ : ∀ elems spare, d = .slice elems spare → (elems.length + spare.length) * P.bytesOf e ≤ r), len * P.bytesOf e ≤ r := by
  obtain ⟨A, len, cap, rfl⟩ := okWide_slice ht hv
  obtain ⟨fuel, hf⟩ := h
  rcases open_ints ht he hc hf with ⟨hcs, _⟩ | ⟨x, l, c, zs, hcs, _, hl, hm, hz, hx, hcell, hwz⟩
  · simp [Value.cells] at hcs
    obtain ⟨rfl, rfl, rfl⟩ := hcs
    exact ⟨_, _, _, [], rfl, rfl, by simp, Nums.nil _ _ _, by simp, fun r _ => by simp⟩
  · simp [Value.cells] at hcs
    obtain ⟨rfl, rfl, rfl⟩ := hcs
    have hz' : zs.length = cap := by simpa using hz
    have hd : d = .slice (lits k (zs.take len)) (lits k (zs.drop len)) := by injection hx
    refine ⟨_, _, _, zs.take len, rfl, by simp; omega, by omega, ?_, fun y hy => hwz y (List.mem_of_mem_take hy), fun r hr => ?_⟩
    · intro i hi
      have hi' : i < len := by simp at hi; omega
      have h0 := spot_none (hcell 0 (by omega))
      rw [show x.add 0 = x from by unfold Addr.add; simp] at h0
      refine ⟨x.block, x.off, by rw [← h0], fun j hj => ?_⟩
      have hj' : j < len := by simp at hj; omega
      have hc := hcell j (by omega)
      rw [add_plain j hc (fun _ => trivial)] at hc
      rw [hc]
      simp [List.getElem?_eq_getElem (show j < zs.length by omega)]
    · have := hr _ _ hd
      simp [lits] at this
      have hle : len ≤ min len zs.length + (zs.length - len) := by omega
      exact Nat.le_trans (Nat.mul_le_mul_right _ hle) this
end
end Go.Proofs.YtmaaalpegnhjcaaDoor
