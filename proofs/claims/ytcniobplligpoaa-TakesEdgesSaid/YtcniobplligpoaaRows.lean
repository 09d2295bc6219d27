/-
  No cell of these rows narrows 'for every input' (looked for: loops, veiled, ifaces, maps, wideKeys, modest, calm, conditions, laid).
  DERIVED. THE GIVEN ROWS OF THIS SEAT. 8 by the template 'for every input the law returns true; each argument reads behind the call as it read before'; 0 by the template 'total and deterministic' (their statements: YtcniobplligpoaaTotals.lean).
  GIVEN WITH THE SEED: the statements are not yours to turn. If you find one false, say at which input.
  Laid BY PROGRAM, IN A SANDBOX (cutbox-rows.mjs): the forced cells as the released guide's own fill.sh prints them over the translation 2237ad68d419b010… (all of the seat's roots in one cut). By AI agents, Wed Nov 11 2026. No macro, syntax, notation, axiom, sorry.
-/
import Derived.Test.YtcniobplligpoaaChecked
import GoSem.Claim
import GoSem.ClaimJoined
import GoSem.ClaimMapViews
import Derived.JoinedTies
import Derived.KernelRfl
namespace Go.Proofs.Ytcniobplligpoaa
/- THE CELL 'sum', in the pinned program and in every row, IS THE sha256 OF THE DUMP (.gsa) THAT YtcniobplligpoaaProg.lean LOADS. Nothing in Lean hashes anything: it is a label: what it is worth is what the hold of that sum in a sandbox is worth. -/
noncomputable def Try.pinned : Pinned := { name := "ytcniobplligpoaa", sum := "2237ad68d419b010e9d2720041d421ae24307aeb5eeaea71866fce3bbadb3ce0", checked := Try.checked }
namespace Rows
def none {H : Type} : Left H := { results := [], args := [] }

/-- 'ostlerkeep.StartsRise': WHATEVER THE INPUT: true; the input reads as it did. -/
def startsRiseSpec : ChangeSpec := { name := "startsRise", fn := fun _ => fun
  | [d1, d2, d3] => { results := [.lit (.bool true)], args := [d1, d2, d3] }
  | _ => none }
def startsRiseRow : OpenClaim := { program := "ytcniobplligpoaa", sum := "2237ad68d419b010e9d2720041d421ae24307aeb5eeaea71866fce3bbadb3ce0", func := "ostler/ostlerkeep.StartsRise", spec := "startsRise", apart := false }
def StartsRiseSaid : Prop := startsRiseRow.holds Try.pinned (OpenSpec.ofChange startsRiseSpec)

/-- ITS FALSE NEIGHBOUR: 'it returns false'. Refute it at one input. -/
def startsRiseWrong : ChangeSpec := { name := "startsRise", fn := fun _ => fun
  | [d1, d2, d3] => { results := [.lit (.bool false)], args := [d1, d2, d3] }
  | _ => none }
def StartsRiseWrongFalsely : Prop := startsRiseRow.holds Try.pinned (OpenSpec.ofChange startsRiseWrong)

/-- 'ostlerkeep.MixStep': WHATEVER THE INPUT: true; the input reads as it did. -/
def mixStepSpec : ChangeSpec := { name := "mixStep", fn := fun _ => fun
  | [d1, d2] => { results := [.lit (.bool true)], args := [d1, d2] }
  | _ => none }
def mixStepRow : OpenClaim := { program := "ytcniobplligpoaa", sum := "2237ad68d419b010e9d2720041d421ae24307aeb5eeaea71866fce3bbadb3ce0", func := "ostler/ostlerkeep.MixStep", spec := "mixStep", apart := false }
def MixStepSaid : Prop := mixStepRow.holds Try.pinned (OpenSpec.ofChange mixStepSpec)

/-- ITS FALSE NEIGHBOUR: 'it returns false'. Refute it at one input. -/
def mixStepWrong : ChangeSpec := { name := "mixStep", fn := fun _ => fun
  | [d1, d2] => { results := [.lit (.bool false)], args := [d1, d2] }
  | _ => none }
def MixStepWrongFalsely : Prop := mixStepRow.holds Try.pinned (OpenSpec.ofChange mixStepWrong)

/-- 'ostlerkeep.MixModulo': WHATEVER THE INPUT: true; the input reads as it did. -/
def mixModuloSpec : ChangeSpec := { name := "mixModulo", fn := fun _ => fun
  | [d1, d2, d3] => { results := [.lit (.bool true)], args := [d1, d2, d3] }
  | _ => none }
def mixModuloRow : OpenClaim := { program := "ytcniobplligpoaa", sum := "2237ad68d419b010e9d2720041d421ae24307aeb5eeaea71866fce3bbadb3ce0", func := "ostler/ostlerkeep.MixModulo", spec := "mixModulo", apart := false }
def MixModuloSaid : Prop := mixModuloRow.holds Try.pinned (OpenSpec.ofChange mixModuloSpec)

/-- ITS FALSE NEIGHBOUR: 'it returns false'. Refute it at one input. -/
def mixModuloWrong : ChangeSpec := { name := "mixModulo", fn := fun _ => fun
  | [d1, d2, d3] => { results := [.lit (.bool false)], args := [d1, d2, d3] }
  | _ => none }
def MixModuloWrongFalsely : Prop := mixModuloRow.holds Try.pinned (OpenSpec.ofChange mixModuloWrong)

/-- 'ostlerkeep.MachineBad': WHATEVER THE INPUT: true; the input reads as it did. -/
def machineBadSpec : ChangeSpec := { name := "machineBad", fn := fun _ => fun
  | [d1, d2] => { results := [.lit (.bool true)], args := [d1, d2] }
  | _ => none }
def machineBadRow : OpenClaim := { program := "ytcniobplligpoaa", sum := "2237ad68d419b010e9d2720041d421ae24307aeb5eeaea71866fce3bbadb3ce0", func := "ostler/ostlerkeep.MachineBad", spec := "machineBad", apart := false }
def MachineBadSaid : Prop := machineBadRow.holds Try.pinned (OpenSpec.ofChange machineBadSpec)

/-- ITS FALSE NEIGHBOUR: 'it returns false'. Refute it at one input. -/
def machineBadWrong : ChangeSpec := { name := "machineBad", fn := fun _ => fun
  | [d1, d2] => { results := [.lit (.bool false)], args := [d1, d2] }
  | _ => none }
def MachineBadWrongFalsely : Prop := machineBadRow.holds Try.pinned (OpenSpec.ofChange machineBadWrong)

/-- 'ostlerkeep.MeetBoth': WHATEVER THE INPUT: true; the input reads as it did. -/
def meetBothSpec : ChangeSpec := { name := "meetBoth", fn := fun _ => fun
  | [d1, d2, d3, d4, d5, d6] => { results := [.lit (.bool true)], args := [d1, d2, d3, d4, d5, d6] }
  | _ => none }
def meetBothRow : OpenClaim := { program := "ytcniobplligpoaa", sum := "2237ad68d419b010e9d2720041d421ae24307aeb5eeaea71866fce3bbadb3ce0", func := "ostler/ostlerkeep.MeetBoth", spec := "meetBoth", recurses := true, apart := false }
def MeetBothSaid : Prop := meetBothRow.holds Try.pinned (OpenSpec.ofChange meetBothSpec)

/-- ITS FALSE NEIGHBOUR: 'it returns false'. Refute it at one input. -/
def meetBothWrong : ChangeSpec := { name := "meetBoth", fn := fun _ => fun
  | [d1, d2, d3, d4, d5, d6] => { results := [.lit (.bool false)], args := [d1, d2, d3, d4, d5, d6] }
  | _ => none }
def MeetBothWrongFalsely : Prop := meetBothRow.holds Try.pinned (OpenSpec.ofChange meetBothWrong)

/-- 'ostlerkeep.MeetUses': WHATEVER THE INPUT: true; the input reads as it did. -/
def meetUsesSpec : ChangeSpec := { name := "meetUses", fn := fun _ => fun
  | [d1, d2] => { results := [.lit (.bool true)], args := [d1, d2] }
  | _ => none }
def meetUsesRow : OpenClaim := { program := "ytcniobplligpoaa", sum := "2237ad68d419b010e9d2720041d421ae24307aeb5eeaea71866fce3bbadb3ce0", func := "ostler/ostlerkeep.MeetUses", spec := "meetUses", recurses := true, apart := false }
def MeetUsesSaid : Prop := meetUsesRow.holds Try.pinned (OpenSpec.ofChange meetUsesSpec)

/-- ITS FALSE NEIGHBOUR: 'it returns false'. Refute it at one input. -/
def meetUsesWrong : ChangeSpec := { name := "meetUses", fn := fun _ => fun
  | [d1, d2] => { results := [.lit (.bool false)], args := [d1, d2] }
  | _ => none }
def MeetUsesWrongFalsely : Prop := meetUsesRow.holds Try.pinned (OpenSpec.ofChange meetUsesWrong)

/-- 'ostlerkeep.TakesEdges': WHATEVER THE INPUT: true; the input reads as it did. -/
def takesEdgesSpec : ChangeSpec := { name := "takesEdges", fn := fun _ => fun
  | [d1, d2, d3, d4] => { results := [.lit (.bool true)], args := [d1, d2, d3, d4] }
  | _ => none }
def takesEdgesRow : OpenClaim := { program := "ytcniobplligpoaa", sum := "2237ad68d419b010e9d2720041d421ae24307aeb5eeaea71866fce3bbadb3ce0", func := "ostler/ostlerkeep.TakesEdges", spec := "takesEdges", apart := false }
def TakesEdgesSaid : Prop := takesEdgesRow.holds Try.pinned (OpenSpec.ofChange takesEdgesSpec)

/-- ITS FALSE NEIGHBOUR: 'it returns false'. Refute it at one input. -/
def takesEdgesWrong : ChangeSpec := { name := "takesEdges", fn := fun _ => fun
  | [d1, d2, d3, d4] => { results := [.lit (.bool false)], args := [d1, d2, d3, d4] }
  | _ => none }
def TakesEdgesWrongFalsely : Prop := takesEdgesRow.holds Try.pinned (OpenSpec.ofChange takesEdgesWrong)

/-- 'ostlerkeep.MadeMix': WHATEVER THE INPUT: true; the input reads as it did. -/
def madeMixSpec : ChangeSpec := { name := "madeMix", fn := fun _ => fun
  | [d1, d2, d3, d4] => { results := [.lit (.bool true)], args := [d1, d2, d3, d4] }
  | _ => none }
def madeMixRow : OpenClaim := { program := "ytcniobplligpoaa", sum := "2237ad68d419b010e9d2720041d421ae24307aeb5eeaea71866fce3bbadb3ce0", func := "ostler/ostlerkeep.MadeMix", spec := "madeMix", apart := false }
def MadeMixSaid : Prop := madeMixRow.holds Try.pinned (OpenSpec.ofChange madeMixSpec)

/-- ITS FALSE NEIGHBOUR: 'it returns false'. Refute it at one input. -/
def madeMixWrong : ChangeSpec := { name := "madeMix", fn := fun _ => fun
  | [d1, d2, d3, d4] => { results := [.lit (.bool false)], args := [d1, d2, d3, d4] }
  | _ => none }
def MadeMixWrongFalsely : Prop := madeMixRow.holds Try.pinned (OpenSpec.ofChange madeMixWrong)

/- THE SECOND FORM. 'bulk': how many values and letters a reading holds, each counted each time it is reached (what is shared counts as often as it is met; a slice's spare places count too). A statement '..UptoSaid' is the law's where the arguments, and the package variables that the reading takes, are together of bulk at most 1048576: NARROWER than '..Said'. Prove '..Said' where nothing that the law and all that it calls make is longer than what came in: it says more and counts as full. Else prove '..UptoSaid'. A law counts once. -/
mutual
def uptoBulk {H : Type} : DataW H → Nat
  | .lit (.string bytes) => bytes.length + 1
  | .lit _ => 1
  | .nil => 1
  | .ptr d => uptoBulk d + 1
  | .slice elems spare => uptoBulkAll elems + uptoBulkAll spare + 1
  | .agg parts => uptoBulkAll parts + 1
  | .iface _ d => uptoBulk d + 1
  | .map entries => uptoBulkEntries entries + 1
  | .held _ => 1
def uptoBulkAll {H : Type} : List (DataW H) → Nat
  | [] => 0
  | d :: r => uptoBulk d + uptoBulkAll r
def uptoBulkEntries {H : Type} : List (Lit × DataW H) → Nat
  | [] => 0
  | x :: r => uptoBulkEntry x + uptoBulkEntries r
def uptoBulkEntry {H : Type} : Lit × DataW H → Nat
  | (.string bytes, d) => bytes.length + uptoBulk d + 1
  | (_, d) => uptoBulk d + 1
 end
def uptoSmall : (H : Type) → List (DataW H) → Bool := fun _ ds => decide (uptoBulkAll ds ≤ 1048576)
def OpenSpec.upto (s : _root_.Go.ChangeSpec) : _root_.Go.OpenSpec := { _root_.Go.OpenSpec.ofChange s with cond := some uptoSmall }

/-- 'ostlerkeep.StartsRise', WHERE WHAT IT READS IS OF BULK AT MOST 1048576: true; the input reads as it did. -/
def startsRiseUptoRow : OpenClaim := { program := "ytcniobplligpoaa", sum := "2237ad68d419b010e9d2720041d421ae24307aeb5eeaea71866fce3bbadb3ce0", func := "ostler/ostlerkeep.StartsRise", spec := "startsRise", apart := false, narrowed := true }
def StartsRiseUptoSaid : Prop := startsRiseUptoRow.holds Try.pinned (OpenSpec.upto startsRiseSpec)

/-- 'ostlerkeep.MixStep', WHERE WHAT IT READS IS OF BULK AT MOST 1048576: true; the input reads as it did. -/
def mixStepUptoRow : OpenClaim := { program := "ytcniobplligpoaa", sum := "2237ad68d419b010e9d2720041d421ae24307aeb5eeaea71866fce3bbadb3ce0", func := "ostler/ostlerkeep.MixStep", spec := "mixStep", apart := false, narrowed := true }
def MixStepUptoSaid : Prop := mixStepUptoRow.holds Try.pinned (OpenSpec.upto mixStepSpec)

/-- 'ostlerkeep.MixModulo', WHERE WHAT IT READS IS OF BULK AT MOST 1048576: true; the input reads as it did. -/
def mixModuloUptoRow : OpenClaim := { program := "ytcniobplligpoaa", sum := "2237ad68d419b010e9d2720041d421ae24307aeb5eeaea71866fce3bbadb3ce0", func := "ostler/ostlerkeep.MixModulo", spec := "mixModulo", apart := false, narrowed := true }
def MixModuloUptoSaid : Prop := mixModuloUptoRow.holds Try.pinned (OpenSpec.upto mixModuloSpec)

/-- 'ostlerkeep.MachineBad', WHERE WHAT IT READS IS OF BULK AT MOST 1048576: true; the input reads as it did. -/
def machineBadUptoRow : OpenClaim := { program := "ytcniobplligpoaa", sum := "2237ad68d419b010e9d2720041d421ae24307aeb5eeaea71866fce3bbadb3ce0", func := "ostler/ostlerkeep.MachineBad", spec := "machineBad", apart := false, narrowed := true }
def MachineBadUptoSaid : Prop := machineBadUptoRow.holds Try.pinned (OpenSpec.upto machineBadSpec)

/-- 'ostlerkeep.MeetBoth', WHERE WHAT IT READS IS OF BULK AT MOST 1048576: true; the input reads as it did. -/
def meetBothUptoRow : OpenClaim := { program := "ytcniobplligpoaa", sum := "2237ad68d419b010e9d2720041d421ae24307aeb5eeaea71866fce3bbadb3ce0", func := "ostler/ostlerkeep.MeetBoth", spec := "meetBoth", recurses := true, apart := false, narrowed := true }
def MeetBothUptoSaid : Prop := meetBothUptoRow.holds Try.pinned (OpenSpec.upto meetBothSpec)

/-- 'ostlerkeep.MeetUses', WHERE WHAT IT READS IS OF BULK AT MOST 1048576: true; the input reads as it did. -/
def meetUsesUptoRow : OpenClaim := { program := "ytcniobplligpoaa", sum := "2237ad68d419b010e9d2720041d421ae24307aeb5eeaea71866fce3bbadb3ce0", func := "ostler/ostlerkeep.MeetUses", spec := "meetUses", recurses := true, apart := false, narrowed := true }
def MeetUsesUptoSaid : Prop := meetUsesUptoRow.holds Try.pinned (OpenSpec.upto meetUsesSpec)

/-- 'ostlerkeep.TakesEdges', WHERE WHAT IT READS IS OF BULK AT MOST 1048576: true; the input reads as it did. -/
def takesEdgesUptoRow : OpenClaim := { program := "ytcniobplligpoaa", sum := "2237ad68d419b010e9d2720041d421ae24307aeb5eeaea71866fce3bbadb3ce0", func := "ostler/ostlerkeep.TakesEdges", spec := "takesEdges", apart := false, narrowed := true }
def TakesEdgesUptoSaid : Prop := takesEdgesUptoRow.holds Try.pinned (OpenSpec.upto takesEdgesSpec)

/-- 'ostlerkeep.MadeMix', WHERE WHAT IT READS IS OF BULK AT MOST 1048576: true; the input reads as it did. -/
def madeMixUptoRow : OpenClaim := { program := "ytcniobplligpoaa", sum := "2237ad68d419b010e9d2720041d421ae24307aeb5eeaea71866fce3bbadb3ce0", func := "ostler/ostlerkeep.MadeMix", spec := "madeMix", apart := false, narrowed := true }
def MadeMixUptoSaid : Prop := madeMixUptoRow.holds Try.pinned (OpenSpec.upto madeMixSpec)

end Rows
end Go.Proofs.Ytcniobplligpoaa
