/- The statement 'AllocTight': facts of its row, one by one. Conditions: none. -/
import Derived.Test.YtmafghjodghgcaaGreatRows
import Derived.JoinedOf
import Derived.KernelRfl
namespace Go.Proofs.YtmafghjodghgcaaGreat.allocTight
open Go
set_option maxRecDepth 100000
theorem k1 : (@_root_.Go.OpenClaim.wf (OpenSpec.ofChange Rows.allocTightSpec) Rows.allocTightRow) = true := by kernel_rfl
theorem k2 : (laidOutB Tryz.pinned.checked.prog) = true := by kernel_rfl
theorem k3 : (mapsRowed Tryz.pinned.checked.prog) = true := by kernel_rfl
theorem k4 : (Tryz.f5.params.all (Tryz.pinned.checked.prog.readableRec ·)) = true := by kernel_rfl
theorem k5 : (namedTie Tryz.pinned.checked.prog Rows.allocTightRow.named Rows.allocTightSpec.vars) = true := by kernel_rfl
theorem k6 : (Rows.allocTightRow.stops == []) = true := by kernel_rfl
theorem k8 : (Rows.allocTightRow.knobs == []) = true := by kernel_rfl
theorem k7 : (Tryz.pinned.checked.prog.stops == []) = true := by kernel_rfl
theorem k9 : (Tryz.pinned.checked.prog.stopKnobs == []) = true := by kernel_rfl
theorem k23b : (Tryz.pinned.checked.prog.stopsHeard) = true := by kernel_rfl
theorem k24 : (Tryz.pinned.checked.prog.mayEnter) = true := by kernel_rfl
theorem k10 : (Rows.allocTightRow.inPlace == Tryz.pinned.checked.prog.inPlace 5) = true := by kernel_rfl
theorem k11 : (Rows.allocTightRow.unfollowed == Tryz.pinned.checked.prog.unfollowed 5) = true := by kernel_rfl
theorem k13 : (Rows.allocTightRow.named == Tryz.pinned.checked.prog.varsNamed 5) = true := by kernel_rfl
theorem unf : Tryz.pinned.checked.prog.unfollowed 5 = true := by
  have h := k11
  rw [beq_iff_eq] at h
  exact h.symm
theorem k12 : (Rows.allocTightRow.recurses == Tryz.pinned.checked.prog.recurses 5) = true := by
  have h : Tryz.pinned.checked.prog.recurses 5 = true := by
    unfold Program.recurses
    rw [unf]
    rfl
  rw [h]
  rfl
theorem k14 : (Rows.allocTightRow.maps == (Tryz.f5.params.toList ++ Rows.allocTightSpec.plain.varTypes Tryz.pinned.checked.prog).any (Tryz.pinned.checked.prog.mapsRec ·)) = true := by kernel_rfl
theorem k15 : (Rows.allocTightRow.ifaces == (Tryz.f5.params.toList ++ Rows.allocTightSpec.plain.varTypes Tryz.pinned.checked.prog).any (Tryz.pinned.checked.prog.ifacesRec ·)) = true := by kernel_rfl
theorem k16 : (Rows.allocTightRow.mapsOut == Tryz.pinned.checked.prog.mapsAmong Tryz.f5.resultTypes.toList) = true := by kernel_rfl
theorem k17 : (Rows.allocTightRow.loops == (Tryz.f5.params.toList ++ Rows.allocTightSpec.plain.varTypes Tryz.pinned.checked.prog).any (Tryz.pinned.checked.prog.loopsFrom ·)) = true := by kernel_rfl
theorem k17b : (Rows.allocTightRow.wideKeys == (Tryz.f5.params.toList ++ Rows.allocTightSpec.plain.varTypes Tryz.pinned.checked.prog ++ Tryz.f5.resultTypes.toList).any (Tryz.pinned.checked.prog.wideKeysFrom ·)) = true := by kernel_rfl
theorem k18 : (Rows.allocTightSpec.vars.all (Tryz.pinned.checked.prog.varReadable ·)) = true := by kernel_rfl
theorem k19 : (Tryz.f5.resultTypes.all (fun t => Tryz.pinned.checked.prog.readableRec t && decide (t < Tryz.pinned.checked.prog.types.size))) = true := by kernel_rfl
theorem k20 : (Rows.allocTightRow.ifacesOut == Tryz.f5.resultTypes.toList.any (Tryz.pinned.checked.prog.ifacesRec ·)) = true := by kernel_rfl
theorem k21 : (Rows.allocTightRow.loopsOut == Tryz.f5.resultTypes.toList.any (Tryz.pinned.checked.prog.loopsFrom ·)) = true := by kernel_rfl
theorem k22 : (Rows.allocTightRow.plainKeys == Tryz.pinned.checked.prog.plainKeys) = true := by kernel_rfl
theorem k23 : (Rows.allocTightRow.shortTexts.isNone) = true := by kernel_rfl
theorem k24b : (Rows.allocTightRow.lifted == Tryz.pinned.checked.prog.liftsFinal) = true := by kernel_rfl
theorem k24c : (Tryz.pinned.checked.prog.make == some Rows.allocTightRow.make) = true := by kernel_rfl
theorem k25 : (Rows.allocTightRow.kinds == (if Rows.allocTightRow.domain.isEmpty then [] else Tryz.f5.params.toList.map fun t => match Tryz.pinned.checked.prog.underlying t with | some (.int k) => some k | _ => none)) = true := by kernel_rfl
theorem k26 : (Rows.allocTightRow.pinned == Rows.allocTightRow.pinnedBy) = true := by kernel_rfl
theorem k27 : (Rows.allocTightRow.veiled == (Tryz.f5.params.toList ++ Rows.allocTightSpec.plain.varTypes Tryz.pinned.checked.prog ++ Tryz.f5.resultTypes.toList).any (Tryz.pinned.checked.prog.veiledRec ·)) = true := by kernel_rfl
theorem k28 : (Rows.allocTightRow.veiledFits Tryz.pinned.checked.prog Tryz.f5.params.toList (Tryz.f5.params.toList ++ Rows.allocTightSpec.plain.varTypes Tryz.pinned.checked.prog ++ Tryz.f5.resultTypes.toList)) = true := by kernel_rfl
end Go.Proofs.YtmafghjodghgcaaGreat.allocTight
