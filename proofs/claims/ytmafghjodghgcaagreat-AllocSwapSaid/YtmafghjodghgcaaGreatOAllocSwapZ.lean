/- The statement 'AllocSwap': facts of its row, one by one. Conditions: none. -/
import Derived.Test.YtmafghjodghgcaaGreatRows
import Derived.JoinedOf
import Derived.KernelRfl
namespace Go.Proofs.YtmafghjodghgcaaGreat.allocSwap
open Go
set_option maxRecDepth 100000
theorem k1 : (@_root_.Go.OpenClaim.wf (OpenSpec.ofChange Rows.allocSwapSpec) Rows.allocSwapRow) = true := by kernel_rfl
theorem k2 : (laidOutB Tryz.pinned.checked.prog) = true := by kernel_rfl
theorem k3 : (mapsRowed Tryz.pinned.checked.prog) = true := by kernel_rfl
theorem k4 : (Tryz.f4.params.all (Tryz.pinned.checked.prog.readableRec ·)) = true := by kernel_rfl
theorem k5 : (namedTie Tryz.pinned.checked.prog Rows.allocSwapRow.named Rows.allocSwapSpec.vars) = true := by kernel_rfl
theorem k6 : (Rows.allocSwapRow.stops == []) = true := by kernel_rfl
theorem k8 : (Rows.allocSwapRow.knobs == []) = true := by kernel_rfl
theorem k7 : (Tryz.pinned.checked.prog.stops == []) = true := by kernel_rfl
theorem k9 : (Tryz.pinned.checked.prog.stopKnobs == []) = true := by kernel_rfl
theorem k23b : (Tryz.pinned.checked.prog.stopsHeard) = true := by kernel_rfl
theorem k24 : (Tryz.pinned.checked.prog.mayEnter) = true := by kernel_rfl
theorem k10 : (Rows.allocSwapRow.inPlace == Tryz.pinned.checked.prog.inPlace 4) = true := by kernel_rfl
theorem k11 : (Rows.allocSwapRow.unfollowed == Tryz.pinned.checked.prog.unfollowed 4) = true := by kernel_rfl
theorem k13 : (Rows.allocSwapRow.named == Tryz.pinned.checked.prog.varsNamed 4) = true := by kernel_rfl
theorem unf : Tryz.pinned.checked.prog.unfollowed 4 = true := by
  have h := k11
  rw [beq_iff_eq] at h
  exact h.symm
theorem k12 : (Rows.allocSwapRow.recurses == Tryz.pinned.checked.prog.recurses 4) = true := by
  have h : Tryz.pinned.checked.prog.recurses 4 = true := by
    unfold Program.recurses
    rw [unf]
    rfl
  rw [h]
  rfl
theorem k14 : (Rows.allocSwapRow.maps == (Tryz.f4.params.toList ++ Rows.allocSwapSpec.plain.varTypes Tryz.pinned.checked.prog).any (Tryz.pinned.checked.prog.mapsRec ·)) = true := by kernel_rfl
theorem k15 : (Rows.allocSwapRow.ifaces == (Tryz.f4.params.toList ++ Rows.allocSwapSpec.plain.varTypes Tryz.pinned.checked.prog).any (Tryz.pinned.checked.prog.ifacesRec ·)) = true := by kernel_rfl
theorem k16 : (Rows.allocSwapRow.mapsOut == Tryz.pinned.checked.prog.mapsAmong Tryz.f4.resultTypes.toList) = true := by kernel_rfl
theorem k17 : (Rows.allocSwapRow.loops == (Tryz.f4.params.toList ++ Rows.allocSwapSpec.plain.varTypes Tryz.pinned.checked.prog).any (Tryz.pinned.checked.prog.loopsFrom ·)) = true := by kernel_rfl
theorem k17b : (Rows.allocSwapRow.wideKeys == (Tryz.f4.params.toList ++ Rows.allocSwapSpec.plain.varTypes Tryz.pinned.checked.prog ++ Tryz.f4.resultTypes.toList).any (Tryz.pinned.checked.prog.wideKeysFrom ·)) = true := by kernel_rfl
theorem k18 : (Rows.allocSwapSpec.vars.all (Tryz.pinned.checked.prog.varReadable ·)) = true := by kernel_rfl
theorem k19 : (Tryz.f4.resultTypes.all (fun t => Tryz.pinned.checked.prog.readableRec t && decide (t < Tryz.pinned.checked.prog.types.size))) = true := by kernel_rfl
theorem k20 : (Rows.allocSwapRow.ifacesOut == Tryz.f4.resultTypes.toList.any (Tryz.pinned.checked.prog.ifacesRec ·)) = true := by kernel_rfl
theorem k21 : (Rows.allocSwapRow.loopsOut == Tryz.f4.resultTypes.toList.any (Tryz.pinned.checked.prog.loopsFrom ·)) = true := by kernel_rfl
theorem k22 : (Rows.allocSwapRow.plainKeys == Tryz.pinned.checked.prog.plainKeys) = true := by kernel_rfl
theorem k23 : (Rows.allocSwapRow.shortTexts.isNone) = true := by kernel_rfl
theorem k24b : (Rows.allocSwapRow.lifted == Tryz.pinned.checked.prog.liftsFinal) = true := by kernel_rfl
theorem k24c : (Tryz.pinned.checked.prog.make == some Rows.allocSwapRow.make) = true := by kernel_rfl
theorem k25 : (Rows.allocSwapRow.kinds == (if Rows.allocSwapRow.domain.isEmpty then [] else Tryz.f4.params.toList.map fun t => match Tryz.pinned.checked.prog.underlying t with | some (.int k) => some k | _ => none)) = true := by kernel_rfl
theorem k26 : (Rows.allocSwapRow.pinned == Rows.allocSwapRow.pinnedBy) = true := by kernel_rfl
theorem k27 : (Rows.allocSwapRow.veiled == (Tryz.f4.params.toList ++ Rows.allocSwapSpec.plain.varTypes Tryz.pinned.checked.prog ++ Tryz.f4.resultTypes.toList).any (Tryz.pinned.checked.prog.veiledRec ·)) = true := by kernel_rfl
theorem k28 : (Rows.allocSwapRow.veiledFits Tryz.pinned.checked.prog Tryz.f4.params.toList (Tryz.f4.params.toList ++ Rows.allocSwapSpec.plain.varTypes Tryz.pinned.checked.prog ++ Tryz.f4.resultTypes.toList)) = true := by kernel_rfl
end Go.Proofs.YtmafghjodghgcaaGreat.allocSwap
