/- What TextWords' row lists: the interpreter's constants. -/
import Derived.Test.YtmaaalpegnhjcaaDoorLd
import Derived.Test.YtmaaalpegnhjcaaDoorTwR
namespace Go.Proofs.YtmaaalpegnhjcaaDoor.textWords
open Go Go.RowKit Go.Proofs.YtmaaalpegnhjcaaDoor.Ev
set_option linter.unusedVariables false
set_option maxRecDepth 100000
theorem gk {W : World} (hL : laidMetH Tryd.prog Rows.textWordsRow.laid W) (hs : W.ShapedOpen Tryd.prog) : GK (allW W) := by
  rw [MakeChecks.laidMetH_plain _ _ _ (by kernel_rfl)] at hL
  obtain ⟨ps, hv, _, _⟩ := hL
  refine ⟨fun g cells e => ?_, ?_, ?_, ?_, ?_⟩
  · unfold glob at e
    rw [oif_if] at e
    split at e
    · rename_i hg
      cases e
      rw [Nat.eq_of_beq_eq_true hg]
      obtain ⟨g', t, cs, f, p, h1, h2, h3, h4⟩ := laid_mem hv "ostler/text.kinds" Rows.laid_ostler_text_kinds (List.mem_of_getElem? (i := 7) rfl)
      obtain rfl := Option.some.inj ((show Tryd.prog.globalNamed "ostler/text.kinds" = some 0 by kernel_rfl).symm.trans h1)
      obtain rfl := Option.some.inj ((show (Tryd.prog.globals[0]?).map (·.type) = some 74 by kernel_rfl).symm.trans h2)
      exact ⟨cs, allW_var h1 h3, cells_of_strs (ls := [[], [117, 115, 101], [100, 101, 102]]) Tryd.underlying74 Tryd.underlying9 (by kernel_rfl) h4⟩
    · rw [oif_if] at e
      split at e
      · rename_i hg
        cases e
        rw [Nat.eq_of_beq_eq_true hg]
        obtain ⟨g', t, cs, f, p, h1, h2, h3, h4⟩ := laid_mem hv "ostler/text.limits" Rows.laid_ostler_text_limits (List.mem_of_getElem? (i := 6) rfl)
        obtain rfl := Option.some.inj ((show Tryd.prog.globalNamed "ostler/text.limits" = some 2 by kernel_rfl).symm.trans h1)
        obtain rfl := Option.some.inj ((show (Tryd.prog.globals[2]?).map (·.type) = some 88 by kernel_rfl).symm.trans h2)
        exact ⟨cs, allW_var h1 h3, cells_of_strs (ls := [[], [97, 110, 121], [114, 101, 103], [115, 116, 97, 99, 107], [102, 105, 120, 101, 100], [114, 101, 117, 115, 101]]) Tryd.underlying88 Tryd.underlying9 (by kernel_rfl) h4⟩
      · cases e
  · obtain ⟨m, hm⟩ := Tryd.laysM145.s1_3 W hs
    obtain ⟨cs, h1, h2⟩ := allW_cell (show W.cell? ⟨1, 0, none⟩ = some (.int .i64 m) from hm)
    exact ⟨m, cs, h1, h2⟩
  · obtain ⟨g', t, cs, f, p, h1, h2, h3, h4⟩ := laid_mem hv "internal/strconv.uint64pow10" Rows.laid_internal_strconv_uint64pow10 (List.mem_of_getElem? (i := 2) rfl)
    obtain rfl := Option.some.inj ((show Tryd.prog.globalNamed "internal/strconv.uint64pow10" = some 7 by kernel_rfl).symm.trans h1)
    obtain rfl := Option.some.inj ((show (Tryd.prog.globals[7]?).map (·.type) = some 157 by kernel_rfl).symm.trans h2)
    have hc := Lib.cells_of_tab (zs := Lib.pow10Tab) (k := .u64) Tryd.underlying157 Tryd.underlying127 (by kernel_rfl) (by kernel_rfl) (by
      have e : (Rows.laid_internal_strconv_uint64pow10 : DataW Unit) = Lib.tabData .u64 Lib.pow10Tab := by kernel_rfl
      rw [← e]; exact h4)
    rw [allW_var h1 h3]
    congr 1
    rw [← hc]
  · obtain ⟨g', t, cs, f, p, h1, h2, h3, h4⟩ := laid_mem hv "strconv.ErrSyntax" Rows.laid_strconv_ErrSyntax (List.mem_of_getElem? (i := 5) rfl)
    obtain rfl := Option.some.inj ((show Tryd.prog.globalNamed "strconv.ErrSyntax" = some 3 by kernel_rfl).symm.trans h1)
    obtain rfl := Option.some.inj ((show (Tryd.prog.globals[3]?).map (·.type) = some 69 by kernel_rfl).symm.trans h2)
    obtain ⟨_, u, v, hc, _, _⟩ := iface_of_trod Tryd.underlying69 h4
    exact ⟨cs, .iface u v, allW_var h1 h3, by rw [← Array.getElem?_toList, hc]; rfl, .inr ⟨u, v, rfl⟩⟩
  · obtain ⟨g', t, cs, f, p, h1, h2, h3, h4⟩ := laid_mem hv "strconv.ErrRange" Rows.laid_strconv_ErrRange (List.mem_of_getElem? (i := 4) rfl)
    obtain rfl := Option.some.inj ((show Tryd.prog.globalNamed "strconv.ErrRange" = some 4 by kernel_rfl).symm.trans h1)
    obtain rfl := Option.some.inj ((show (Tryd.prog.globals[4]?).map (·.type) = some 69 by kernel_rfl).symm.trans h2)
    obtain ⟨_, u, v, hc, _, _⟩ := iface_of_trod Tryd.underlying69 h4
    exact ⟨cs, .iface u v, allW_var h1 h3, by rw [← Array.getElem?_toList, hc]; rfl, .inr ⟨u, v, rfl⟩⟩
theorem envFR {A : Nat → Int} {ps : List ((Nat × Int) × Sx)} (h0 : ∀ i m r, ((i, m), r) ∈ ps → In64 (A i) ∧ 0 < m ∧ m ≤ 9223372036854775807 ∧ pick (A i) m = den A r) : Env Tryd.prog A tys (FR ps) := withX_env (withX_env (withX_env (withL_env (env h0))))
theorem textWords_walk (W : World) (g : GK (allW W)) (a0 : Int) (h0 : In64 a0) : Calls Tryd.prog 3 #[.int .i64 a0] W fun e w' => e = .returned (.bool true) ∧ Below W.heap.size W w' := by
  obtain ⟨r0, l0, e0⟩ := pick_case a0 5 (by omega)
  have hr := up_all twA r0 l0
  refine run_true (envFR (A := fun _ => a0) ?_) hr (allW_ok W) _ (.cons rfl .nil)
  intro i m r hm
  simp only [List.mem_cons, List.not_mem_nil, or_false, Prod.mk.injEq] at hm
  obtain ⟨⟨rfl, rfl⟩, rfl⟩ := hm
  exact ⟨h0, by omega, by omega, e0⟩
end Go.Proofs.YtmaaalpegnhjcaaDoor.textWords
