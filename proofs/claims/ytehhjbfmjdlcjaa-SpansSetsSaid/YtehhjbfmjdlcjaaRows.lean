/-
  No cell of these rows narrows 'for every input' (looked for: loops, veiled, ifaces, maps, wideKeys, modest, calm, conditions, laid).
  DERIVED. THE GIVEN ROWS OF THIS SEAT. 6 by the template 'for every input the law returns true; each argument reads behind the call as it read before'; 0 by the template 'total and deterministic' (their statements: YtehhjbfmjdlcjaaTotals.lean).
  GIVEN WITH THE SEED: the statements are not yours to turn. If you find one false, say at which input.
  Laid BY PROGRAM, IN A SANDBOX (cutbox-rows.mjs): the forced cells as the released guide's own fill.sh prints them over the translation 228cd1f5f37bbbd5… (all of the seat's roots in one cut). By AI agents, Wed Nov 11 2026. No macro, syntax, notation, axiom, sorry.
-/
import Derived.Test.YtehhjbfmjdlcjaaChecked
import GoSem.Claim
import GoSem.ClaimJoined
import GoSem.ClaimMapViews
import Derived.JoinedTies
import Derived.KernelRfl
namespace Go.Proofs.Ytehhjbfmjdlcjaa
/- THE CELL 'sum', in the pinned program and in every row, IS THE sha256 OF THE DUMP (.gsa) THAT YtehhjbfmjdlcjaaProg.lean LOADS. Nothing in Lean hashes anything: it is a label: what it is worth is what the hold of that sum in a sandbox is worth. -/
noncomputable def Try.pinned : Pinned := { name := "ytehhjbfmjdlcjaa", sum := "228cd1f5f37bbbd51782128040433697a5054b3dfb5664079e5aede4d72d9e75", checked := Try.checked }
namespace Rows
def none {H : Type} : Left H := { results := [], args := [] }

/-- 'ostlerkeep.PricesRise': WHATEVER THE INPUT: true; the input reads as it did. -/
def pricesRiseSpec : ChangeSpec := { name := "pricesRise", fn := fun _ => fun
  | [d1, d2, d3] => { results := [.lit (.bool true)], args := [d1, d2, d3] }
  | _ => none }
def pricesRiseRow : OpenClaim := { program := "ytehhjbfmjdlcjaa", sum := "228cd1f5f37bbbd51782128040433697a5054b3dfb5664079e5aede4d72d9e75", func := "ostler/ostlerkeep.PricesRise", spec := "pricesRise", unfollowed := true, recurses := true, apart := false }
def PricesRiseSaid : Prop := pricesRiseRow.holds Try.pinned (OpenSpec.ofChange pricesRiseSpec)

/-- ITS FALSE NEIGHBOUR: 'it returns false'. Refute it at one input. -/
def pricesRiseWrong : ChangeSpec := { name := "pricesRise", fn := fun _ => fun
  | [d1, d2, d3] => { results := [.lit (.bool false)], args := [d1, d2, d3] }
  | _ => none }
def PricesRiseWrongFalsely : Prop := pricesRiseRow.holds Try.pinned (OpenSpec.ofChange pricesRiseWrong)

/-- 'ostlerkeep.SetsFlow': WHATEVER THE INPUT: true; the input reads as it did. -/
def setsFlowSpec : ChangeSpec := { name := "setsFlow", fn := fun _ => fun
  | [d1, d2, d3] => { results := [.lit (.bool true)], args := [d1, d2, d3] }
  | _ => none }
def setsFlowRow : OpenClaim := { program := "ytehhjbfmjdlcjaa", sum := "228cd1f5f37bbbd51782128040433697a5054b3dfb5664079e5aede4d72d9e75", func := "ostler/ostlerkeep.SetsFlow", spec := "setsFlow", unfollowed := true, recurses := true, apart := false }
def SetsFlowSaid : Prop := setsFlowRow.holds Try.pinned (OpenSpec.ofChange setsFlowSpec)

/-- ITS FALSE NEIGHBOUR: 'it returns false'. Refute it at one input. -/
def setsFlowWrong : ChangeSpec := { name := "setsFlow", fn := fun _ => fun
  | [d1, d2, d3] => { results := [.lit (.bool false)], args := [d1, d2, d3] }
  | _ => none }
def SetsFlowWrongFalsely : Prop := setsFlowRow.holds Try.pinned (OpenSpec.ofChange setsFlowWrong)

/-- 'ostlerkeep.SetsIn': WHATEVER THE INPUT: true; the input reads as it did. -/
def setsInSpec : ChangeSpec := { name := "setsIn", fn := fun _ => fun
  | [d1, d2, d3] => { results := [.lit (.bool true)], args := [d1, d2, d3] }
  | _ => none }
def setsInRow : OpenClaim := { program := "ytehhjbfmjdlcjaa", sum := "228cd1f5f37bbbd51782128040433697a5054b3dfb5664079e5aede4d72d9e75", func := "ostler/ostlerkeep.SetsIn", spec := "setsIn", unfollowed := true, recurses := true, apart := false }
def SetsInSaid : Prop := setsInRow.holds Try.pinned (OpenSpec.ofChange setsInSpec)

/-- ITS FALSE NEIGHBOUR: 'it returns false'. Refute it at one input. -/
def setsInWrong : ChangeSpec := { name := "setsIn", fn := fun _ => fun
  | [d1, d2, d3] => { results := [.lit (.bool false)], args := [d1, d2, d3] }
  | _ => none }
def SetsInWrongFalsely : Prop := setsInRow.holds Try.pinned (OpenSpec.ofChange setsInWrong)

/-- 'ostlerkeep.SpansUses': WHATEVER THE INPUT: true; the input reads as it did. -/
def spansUsesSpec : ChangeSpec := { name := "spansUses", fn := fun _ => fun
  | [d1, d2, d3] => { results := [.lit (.bool true)], args := [d1, d2, d3] }
  | _ => none }
def spansUsesRow : OpenClaim := { program := "ytehhjbfmjdlcjaa", sum := "228cd1f5f37bbbd51782128040433697a5054b3dfb5664079e5aede4d72d9e75", func := "ostler/ostlerkeep.SpansUses", spec := "spansUses", unfollowed := true, recurses := true, apart := false }
def SpansUsesSaid : Prop := spansUsesRow.holds Try.pinned (OpenSpec.ofChange spansUsesSpec)

/-- ITS FALSE NEIGHBOUR: 'it returns false'. Refute it at one input. -/
def spansUsesWrong : ChangeSpec := { name := "spansUses", fn := fun _ => fun
  | [d1, d2, d3] => { results := [.lit (.bool false)], args := [d1, d2, d3] }
  | _ => none }
def SpansUsesWrongFalsely : Prop := spansUsesRow.holds Try.pinned (OpenSpec.ofChange spansUsesWrong)

/-- 'ostlerkeep.SpansApart': WHATEVER THE INPUT: true; the input reads as it did. -/
def spansApartSpec : ChangeSpec := { name := "spansApart", fn := fun _ => fun
  | [d1, d2, d3] => { results := [.lit (.bool true)], args := [d1, d2, d3] }
  | _ => none }
def spansApartRow : OpenClaim := { program := "ytehhjbfmjdlcjaa", sum := "228cd1f5f37bbbd51782128040433697a5054b3dfb5664079e5aede4d72d9e75", func := "ostler/ostlerkeep.SpansApart", spec := "spansApart", unfollowed := true, recurses := true, apart := false }
def SpansApartSaid : Prop := spansApartRow.holds Try.pinned (OpenSpec.ofChange spansApartSpec)

/-- ITS FALSE NEIGHBOUR: 'it returns false'. Refute it at one input. -/
def spansApartWrong : ChangeSpec := { name := "spansApart", fn := fun _ => fun
  | [d1, d2, d3] => { results := [.lit (.bool false)], args := [d1, d2, d3] }
  | _ => none }
def SpansApartWrongFalsely : Prop := spansApartRow.holds Try.pinned (OpenSpec.ofChange spansApartWrong)

/-- 'ostlerkeep.SpansSets': WHATEVER THE INPUT: true; the input reads as it did. -/
def spansSetsSpec : ChangeSpec := { name := "spansSets", fn := fun _ => fun
  | [d1, d2, d3] => { results := [.lit (.bool true)], args := [d1, d2, d3] }
  | _ => none }
def spansSetsRow : OpenClaim := { program := "ytehhjbfmjdlcjaa", sum := "228cd1f5f37bbbd51782128040433697a5054b3dfb5664079e5aede4d72d9e75", func := "ostler/ostlerkeep.SpansSets", spec := "spansSets", unfollowed := true, recurses := true, apart := false }
def SpansSetsSaid : Prop := spansSetsRow.holds Try.pinned (OpenSpec.ofChange spansSetsSpec)

/-- ITS FALSE NEIGHBOUR: 'it returns false'. Refute it at one input. -/
def spansSetsWrong : ChangeSpec := { name := "spansSets", fn := fun _ => fun
  | [d1, d2, d3] => { results := [.lit (.bool false)], args := [d1, d2, d3] }
  | _ => none }
def SpansSetsWrongFalsely : Prop := spansSetsRow.holds Try.pinned (OpenSpec.ofChange spansSetsWrong)

/- THE SECOND FORM. 'bulk': how many values and letters a reading holds, each counted each time it is reached (what is shared counts as often as it is met; a slice's spare places count too). A statement '..UptoSaid' is the law's where the arguments, and the package variables that the reading takes, are together of bulk at most 1048576: NARROWER than '..Said'. Prove '..Said' where nothing that the law and all that it calls make is longer than what came in: it says more and counts as full. Else prove '..UptoSaid'. A law counts once. -/
mutual
def uptoBulk {H : Type} : DataW H → Nat
  | .lit (.string bytes) => bytes.length + 1
  | .lit _ => 1
  | .nil => 1
  | .ptr d => uptoBulk d + 1
  | .slice elems spare => uptoBulkAll elems + uptoBulkAll spare + 1
  | .agg parts => uptoBulkAll parts + 1
  | .iface _ d => uptoBulk d + 1
  | .map entries => uptoBulkEntries entries + 1
  | .held _ => 1
def uptoBulkAll {H : Type} : List (DataW H) → Nat
  | [] => 0
  | d :: r => uptoBulk d + uptoBulkAll r
def uptoBulkEntries {H : Type} : List (Lit × DataW H) → Nat
  | [] => 0
  | x :: r => uptoBulkEntry x + uptoBulkEntries r
def uptoBulkEntry {H : Type} : Lit × DataW H → Nat
  | (.string bytes, d) => bytes.length + uptoBulk d + 1
  | (_, d) => uptoBulk d + 1
 end
def uptoSmall : (H : Type) → List (DataW H) → Bool := fun _ ds => decide (uptoBulkAll ds ≤ 1048576)
def OpenSpec.upto (s : _root_.Go.ChangeSpec) : _root_.Go.OpenSpec := { _root_.Go.OpenSpec.ofChange s with cond := some uptoSmall }

/-- 'ostlerkeep.PricesRise', WHERE WHAT IT READS IS OF BULK AT MOST 1048576: true; the input reads as it did. -/
def pricesRiseUptoRow : OpenClaim := { program := "ytehhjbfmjdlcjaa", sum := "228cd1f5f37bbbd51782128040433697a5054b3dfb5664079e5aede4d72d9e75", func := "ostler/ostlerkeep.PricesRise", spec := "pricesRise", unfollowed := true, recurses := true, apart := false, narrowed := true }
def PricesRiseUptoSaid : Prop := pricesRiseUptoRow.holds Try.pinned (OpenSpec.upto pricesRiseSpec)

/-- 'ostlerkeep.SetsFlow', WHERE WHAT IT READS IS OF BULK AT MOST 1048576: true; the input reads as it did. -/
def setsFlowUptoRow : OpenClaim := { program := "ytehhjbfmjdlcjaa", sum := "228cd1f5f37bbbd51782128040433697a5054b3dfb5664079e5aede4d72d9e75", func := "ostler/ostlerkeep.SetsFlow", spec := "setsFlow", unfollowed := true, recurses := true, apart := false, narrowed := true }
def SetsFlowUptoSaid : Prop := setsFlowUptoRow.holds Try.pinned (OpenSpec.upto setsFlowSpec)

/-- 'ostlerkeep.SetsIn', WHERE WHAT IT READS IS OF BULK AT MOST 1048576: true; the input reads as it did. -/
def setsInUptoRow : OpenClaim := { program := "ytehhjbfmjdlcjaa", sum := "228cd1f5f37bbbd51782128040433697a5054b3dfb5664079e5aede4d72d9e75", func := "ostler/ostlerkeep.SetsIn", spec := "setsIn", unfollowed := true, recurses := true, apart := false, narrowed := true }
def SetsInUptoSaid : Prop := setsInUptoRow.holds Try.pinned (OpenSpec.upto setsInSpec)

/-- 'ostlerkeep.SpansUses', WHERE WHAT IT READS IS OF BULK AT MOST 1048576: true; the input reads as it did. -/
def spansUsesUptoRow : OpenClaim := { program := "ytehhjbfmjdlcjaa", sum := "228cd1f5f37bbbd51782128040433697a5054b3dfb5664079e5aede4d72d9e75", func := "ostler/ostlerkeep.SpansUses", spec := "spansUses", unfollowed := true, recurses := true, apart := false, narrowed := true }
def SpansUsesUptoSaid : Prop := spansUsesUptoRow.holds Try.pinned (OpenSpec.upto spansUsesSpec)

/-- 'ostlerkeep.SpansApart', WHERE WHAT IT READS IS OF BULK AT MOST 1048576: true; the input reads as it did. -/
def spansApartUptoRow : OpenClaim := { program := "ytehhjbfmjdlcjaa", sum := "228cd1f5f37bbbd51782128040433697a5054b3dfb5664079e5aede4d72d9e75", func := "ostler/ostlerkeep.SpansApart", spec := "spansApart", unfollowed := true, recurses := true, apart := false, narrowed := true }
def SpansApartUptoSaid : Prop := spansApartUptoRow.holds Try.pinned (OpenSpec.upto spansApartSpec)

/-- 'ostlerkeep.SpansSets', WHERE WHAT IT READS IS OF BULK AT MOST 1048576: true; the input reads as it did. -/
def spansSetsUptoRow : OpenClaim := { program := "ytehhjbfmjdlcjaa", sum := "228cd1f5f37bbbd51782128040433697a5054b3dfb5664079e5aede4d72d9e75", func := "ostler/ostlerkeep.SpansSets", spec := "spansSets", unfollowed := true, recurses := true, apart := false, narrowed := true }
def SpansSetsUptoSaid : Prop := spansSetsUptoRow.holds Try.pinned (OpenSpec.upto spansSetsSpec)

end Rows
end Go.Proofs.Ytehhjbfmjdlcjaa
