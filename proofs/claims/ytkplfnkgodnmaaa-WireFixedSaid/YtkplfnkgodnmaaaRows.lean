/-
  No cell of these rows narrows 'for every input' (looked for: loops, veiled, ifaces, maps, wideKeys, modest, calm, conditions, laid).
  DERIVED. THE GIVEN ROWS OF THIS SEAT. 4 by the template 'for every input the law returns true; each argument reads behind the call as it read before'; 0 by the template 'total and deterministic' (their statements: YtkplfnkgodnmaaaTotals.lean).
  GIVEN WITH THE SEED: the statements are not yours to turn. If you find one false, say at which input.
  Laid BY PROGRAM, IN A SANDBOX (cutbox-rows.mjs): the forced cells as the released guide's own fill.sh prints them over the translation c5be138dda26dc15… (all of the seat's roots in one cut). By AI agents, Wed Nov 11 2026. No macro, syntax, notation, axiom, sorry.
-/
import Derived.Test.YtkplfnkgodnmaaaChecked
import GoSem.Claim
import GoSem.ClaimJoined
import GoSem.ClaimMapViews
import Derived.JoinedTies
import Derived.KernelRfl
namespace Go.Proofs.Ytkplfnkgodnmaaa
/- THE CELL 'sum', in the pinned program and in every row, IS THE sha256 OF THE DUMP (.gsa) THAT YtkplfnkgodnmaaaProg.lean LOADS. Nothing in Lean hashes anything: it is a label: what it is worth is what the hold of that sum in a sandbox is worth. -/
noncomputable def Try.pinned : Pinned := { name := "ytkplfnkgodnmaaa", sum := "c5be138dda26dc153a51441b4fca8a9028e1d070807127ed96228253693b0bf7", checked := Try.checked }
namespace Rows
def none {H : Type} : Left H := { results := [], args := [] }

/-- 'ostlerkeep.WireFixed': WHATEVER THE INPUT: true; the input reads as it did. -/
def wireFixedSpec : ChangeSpec := { name := "wireFixed", fn := fun _ => fun
  | [d] => { results := [.lit (.bool true)], args := [d] }
  | _ => none }
def wireFixedRow : OpenClaim := { program := "ytkplfnkgodnmaaa", sum := "c5be138dda26dc153a51441b4fca8a9028e1d070807127ed96228253693b0bf7", func := "ostler/ostlerkeep.WireFixed", spec := "wireFixed", unfollowed := true, recurses := true, apart := false }
def WireFixedSaid : Prop := wireFixedRow.holds Try.pinned (OpenSpec.ofChange wireFixedSpec)

/-- ITS FALSE NEIGHBOUR: 'it returns false'. Refute it at one input. -/
def wireFixedWrong : ChangeSpec := { name := "wireFixed", fn := fun _ => fun
  | [d] => { results := [.lit (.bool false)], args := [d] }
  | _ => none }
def WireFixedWrongFalsely : Prop := wireFixedRow.holds Try.pinned (OpenSpec.ofChange wireFixedWrong)

/-- 'ostlerkeep.FlowGood': WHATEVER THE INPUT: true; the input reads as it did. -/
def flowGoodSpec : ChangeSpec := { name := "flowGood", fn := fun _ => fun
  | [d1, d2, d3] => { results := [.lit (.bool true)], args := [d1, d2, d3] }
  | _ => none }
def flowGoodRow : OpenClaim := { program := "ytkplfnkgodnmaaa", sum := "c5be138dda26dc153a51441b4fca8a9028e1d070807127ed96228253693b0bf7", func := "ostler/ostlerkeep.FlowGood", spec := "flowGood", unfollowed := true, recurses := true, apart := false }
def FlowGoodSaid : Prop := flowGoodRow.holds Try.pinned (OpenSpec.ofChange flowGoodSpec)

/-- ITS FALSE NEIGHBOUR: 'it returns false'. Refute it at one input. -/
def flowGoodWrong : ChangeSpec := { name := "flowGood", fn := fun _ => fun
  | [d1, d2, d3] => { results := [.lit (.bool false)], args := [d1, d2, d3] }
  | _ => none }
def FlowGoodWrongFalsely : Prop := flowGoodRow.holds Try.pinned (OpenSpec.ofChange flowGoodWrong)

/-- 'ostlerkeep.WireTorn': WHATEVER THE INPUT: true; the input reads as it did. -/
def wireTornSpec : ChangeSpec := { name := "wireTorn", fn := fun _ => fun
  | [d1, d2, d3, d4] => { results := [.lit (.bool true)], args := [d1, d2, d3, d4] }
  | _ => none }
def wireTornRow : OpenClaim := { program := "ytkplfnkgodnmaaa", sum := "c5be138dda26dc153a51441b4fca8a9028e1d070807127ed96228253693b0bf7", func := "ostler/ostlerkeep.WireTorn", spec := "wireTorn", unfollowed := true, recurses := true, apart := false }
def WireTornSaid : Prop := wireTornRow.holds Try.pinned (OpenSpec.ofChange wireTornSpec)

/-- ITS FALSE NEIGHBOUR: 'it returns false'. Refute it at one input. -/
def wireTornWrong : ChangeSpec := { name := "wireTorn", fn := fun _ => fun
  | [d1, d2, d3, d4] => { results := [.lit (.bool false)], args := [d1, d2, d3, d4] }
  | _ => none }
def WireTornWrongFalsely : Prop := wireTornRow.holds Try.pinned (OpenSpec.ofChange wireTornWrong)

/-- 'ostlerkeep.StartsRise': WHATEVER THE INPUT: true; the input reads as it did. -/
def startsRiseSpec : ChangeSpec := { name := "startsRise", fn := fun _ => fun
  | [d1, d2, d3] => { results := [.lit (.bool true)], args := [d1, d2, d3] }
  | _ => none }
def startsRiseRow : OpenClaim := { program := "ytkplfnkgodnmaaa", sum := "c5be138dda26dc153a51441b4fca8a9028e1d070807127ed96228253693b0bf7", func := "ostler/ostlerkeep.StartsRise", spec := "startsRise", apart := false }
def StartsRiseSaid : Prop := startsRiseRow.holds Try.pinned (OpenSpec.ofChange startsRiseSpec)

/-- ITS FALSE NEIGHBOUR: 'it returns false'. Refute it at one input. -/
def startsRiseWrong : ChangeSpec := { name := "startsRise", fn := fun _ => fun
  | [d1, d2, d3] => { results := [.lit (.bool false)], args := [d1, d2, d3] }
  | _ => none }
def StartsRiseWrongFalsely : Prop := startsRiseRow.holds Try.pinned (OpenSpec.ofChange startsRiseWrong)

/- THE SECOND FORM. 'bulk': how many values and letters a reading holds, each counted each time it is reached (what is shared counts as often as it is met; a slice's spare places count too). A statement '..UptoSaid' is the law's where the arguments, and the package variables that the reading takes, are together of bulk at most 1048576: NARROWER than '..Said'. Prove '..Said' where nothing that the law and all that it calls make is longer than what came in: it says more and counts as full. Else prove '..UptoSaid'. A law counts once. -/
mutual
def uptoBulk {H : Type} : DataW H → Nat
  | .lit (.string bytes) => bytes.length + 1
  | .lit _ => 1
  | .nil => 1
  | .ptr d => uptoBulk d + 1
  | .slice elems spare => uptoBulkAll elems + uptoBulkAll spare + 1
  | .agg parts => uptoBulkAll parts + 1
  | .iface _ d => uptoBulk d + 1
  | .map entries => uptoBulkEntries entries + 1
  | .held _ => 1
def uptoBulkAll {H : Type} : List (DataW H) → Nat
  | [] => 0
  | d :: r => uptoBulk d + uptoBulkAll r
def uptoBulkEntries {H : Type} : List (Lit × DataW H) → Nat
  | [] => 0
  | x :: r => uptoBulkEntry x + uptoBulkEntries r
def uptoBulkEntry {H : Type} : Lit × DataW H → Nat
  | (.string bytes, d) => bytes.length + uptoBulk d + 1
  | (_, d) => uptoBulk d + 1
 end
def uptoSmall : (H : Type) → List (DataW H) → Bool := fun _ ds => decide (uptoBulkAll ds ≤ 1048576)
def OpenSpec.upto (s : _root_.Go.ChangeSpec) : _root_.Go.OpenSpec := { _root_.Go.OpenSpec.ofChange s with cond := some uptoSmall }

/-- 'ostlerkeep.WireFixed', WHERE WHAT IT READS IS OF BULK AT MOST 1048576: true; the input reads as it did. -/
def wireFixedUptoRow : OpenClaim := { program := "ytkplfnkgodnmaaa", sum := "c5be138dda26dc153a51441b4fca8a9028e1d070807127ed96228253693b0bf7", func := "ostler/ostlerkeep.WireFixed", spec := "wireFixed", unfollowed := true, recurses := true, apart := false, narrowed := true }
def WireFixedUptoSaid : Prop := wireFixedUptoRow.holds Try.pinned (OpenSpec.upto wireFixedSpec)

/-- 'ostlerkeep.FlowGood', WHERE WHAT IT READS IS OF BULK AT MOST 1048576: true; the input reads as it did. -/
def flowGoodUptoRow : OpenClaim := { program := "ytkplfnkgodnmaaa", sum := "c5be138dda26dc153a51441b4fca8a9028e1d070807127ed96228253693b0bf7", func := "ostler/ostlerkeep.FlowGood", spec := "flowGood", unfollowed := true, recurses := true, apart := false, narrowed := true }
def FlowGoodUptoSaid : Prop := flowGoodUptoRow.holds Try.pinned (OpenSpec.upto flowGoodSpec)

/-- 'ostlerkeep.WireTorn', WHERE WHAT IT READS IS OF BULK AT MOST 1048576: true; the input reads as it did. -/
def wireTornUptoRow : OpenClaim := { program := "ytkplfnkgodnmaaa", sum := "c5be138dda26dc153a51441b4fca8a9028e1d070807127ed96228253693b0bf7", func := "ostler/ostlerkeep.WireTorn", spec := "wireTorn", unfollowed := true, recurses := true, apart := false, narrowed := true }
def WireTornUptoSaid : Prop := wireTornUptoRow.holds Try.pinned (OpenSpec.upto wireTornSpec)

/-- 'ostlerkeep.StartsRise', WHERE WHAT IT READS IS OF BULK AT MOST 1048576: true; the input reads as it did. -/
def startsRiseUptoRow : OpenClaim := { program := "ytkplfnkgodnmaaa", sum := "c5be138dda26dc153a51441b4fca8a9028e1d070807127ed96228253693b0bf7", func := "ostler/ostlerkeep.StartsRise", spec := "startsRise", apart := false, narrowed := true }
def StartsRiseUptoSaid : Prop := startsRiseUptoRow.holds Try.pinned (OpenSpec.upto startsRiseSpec)

end Rows
end Go.Proofs.Ytkplfnkgodnmaaa
