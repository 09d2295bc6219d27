/- What a row's list of package-level variables gives: they are among the constants. -/
import Derived.Test.YtmaaalpegnhjcaaDoorEnvL
import Derived.Test.YtmaaalpegnhjcaaDoorRows
import Derived.MakeChecks
import Derived.LaidLaws
import Derived.Lib.LaidTab
import Derived.OpenShut
namespace Go.Proofs.YtmaaalpegnhjcaaDoor.Ev
open Go Go.RowKit
set_option linter.unusedVariables false
theorem laid_mem {P : Program} {w : World} : ∀ {l : List (String × DataW Unit)} {ps : List MemPlace}, DataW.LaidVars P w l ps → ∀ n d, (n, d) ∈ l →
    ∃ g t cs fuel p, P.globalNamed n = some g ∧ (P.globals[g]?).map (·.type) = some t ∧ w.var? P n = some cs ∧ DataW.trod (fun _ => ()) P w 0 (fun _ => true) false fuel t cs.toList = some (d, p)
  | [], ps, _, n, d, h => by simp at h
  | (n0, d0) :: l, ps, ⟨g, t, cs, f, p, q, h1, h2, h3, h4, h5, _⟩, n, d, h => by
    rcases List.mem_cons.1 h with h | h
    · cases h
      exact ⟨g, t, cs, f, p, h1, h2, h3, h4⟩
    · exact laid_mem h5 n d h
/-- all blocks of a world as they are -/
def allW (W : World) (b : Nat) : Option (Array Value) := match W.heap[b]? with
  | some (.cells c e fr) => some c
  | _ => none
theorem allW_ok (W : World) : ConOk (allW W) W := fun b cs h => by
  unfold allW at h
  split at h
  · rename_i c e fr hb
    cases h
    exact ⟨(e, fr), hb⟩
  · cases h
theorem allW_var {P : Program} {W : World} {n : String} {g : Nat} {cs : Array Value} (hg : P.globalNamed n = some g) (hv : W.var? P n = some cs) : allW W g = some cs := by
  unfold World.var? at hv
  simp only [hg, Option.bind_some] at hv
  unfold allW
  split at hv
  · rename_i c a b e
    rw [e]; exact hv
  · cases hv
theorem allW_cell {W : World} {b k : Nat} {u : Value} (h : W.cell? ⟨b, k, none⟩ = some u) : ∃ cs, allW W b = some cs ∧ cs[k]? = some u := by
  unfold World.cell? at h
  simp only at h
  split at h
  · rename_i c e fr hb
    refine ⟨c, ?_, by simpa using h⟩
    unfold allW
    rw [hb]
  · cases h
theorem cells_of_strs {H : Type} {enc : TypeId × Value → H} {P : Program} {w : World} {base : Nat} {sp : Nat → Bool} {held : Bool} {fuel : Nat} {t e : TypeId} {n : Nat} {cs : List Value} {ls : List (List UInt8)} {p : List MemPlace}
    (ht : P.underlying t = some (.array n e)) (he : P.underlying e = some .string) (hce : P.cellsOf e = 1)
    (h : DataW.trod enc P w base sp held fuel t cs = some (.agg (ls.map fun l => .lit (.string l)), p)) : conB (ls.map .str) cs = true := by
  obtain ⟨xs, m, rfl, hx, hl, hn, hel⟩ := DataW.trod_array ht h
  have hxs : xs.map (·.1) = ls.map fun l => (DataW.lit (.string l) : DataW H) := by
    have := congrArg Prod.fst hx
    simpa using this.symm
  have hlen : ls.length = n := by
    have := congrArg List.length hxs
    simp at this
    omega
  have key : ∀ (i : Nat) (l : List UInt8), ls[i]? = some l → ∃ u, cs[i]? = some u ∧ sv1 (.str l) u = true := fun i l hi => by
    have hin : i < n := by
      have := (List.getElem?_eq_some_iff.1 hi).1
      omega
    have h0 := hel i hin
    rw [hce, Nat.mul_one] at h0
    have hxi : (xs.map (·.1))[i]? = some (DataW.lit (.string l) : DataW H) := by rw [hxs, List.getElem?_map, hi]; rfl
    rw [List.getElem?_map] at hxi
    obtain ⟨q, hq, hq2⟩ := Option.map_eq_some_iff.1 hxi
    rw [hq] at h0
    obtain ⟨s, h1, h2, _⟩ := DataW.trod_string he h0
    have h3 : cs[i]? = some (.string s) := by
      have := congrArg (·[0]?) h1
      simpa [List.getElem?_take, List.getElem?_drop] using this
    refine ⟨_, h3, ?_⟩
    rw [h2] at hq2
    simp only [DataW.lit.injEq, Lit.string.injEq] at hq2
    subst hq2
    show (s.data.toList == s.data.toList) = true
    exact beq_self_eq_true _
  clear hx hxs hlen hel h hl hn
  induction ls generalizing cs with
  | nil => rfl
  | cons l ls ih =>
    obtain ⟨u, h1, h2⟩ := key 0 l rfl
    cases cs with
    | nil => cases h1
    | cons c cs =>
      cases h1
      show (sv1 (.str l) u && conB (ls.map .str) cs) = true
      rw [h2, ih (cs := cs) (fun i l hi => key (i + 1) l hi)]
      rfl
end Go.Proofs.YtmaaalpegnhjcaaDoor.Ev
