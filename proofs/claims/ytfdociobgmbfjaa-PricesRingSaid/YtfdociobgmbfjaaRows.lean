/-
  No cell of these rows narrows 'for every input' (looked for: loops, veiled, ifaces, maps, wideKeys, modest, calm, conditions, laid).
  DERIVED. THE GIVEN ROWS OF THIS SEAT. 5 by the template 'for every input the law returns true; each argument reads behind the call as it read before'; 0 by the template 'total and deterministic' (their statements: YtfdociobgmbfjaaTotals.lean).
  GIVEN WITH THE SEED: the statements are not yours to turn. If you find one false, say at which input.
  Laid BY PROGRAM, IN A SANDBOX (cutbox-rows.mjs): the forced cells as the released guide's own fill.sh prints them over the translation 2012af281026f517… (all of the seat's roots in one cut). By AI agents, Wed Nov 11 2026. No macro, syntax, notation, axiom, sorry.
-/
import Derived.Test.YtfdociobgmbfjaaChecked
import GoSem.Claim
import GoSem.ClaimJoined
import GoSem.ClaimMapViews
import Derived.JoinedTies
import Derived.KernelRfl
namespace Go.Proofs.Ytfdociobgmbfjaa
/- THE CELL 'sum', in the pinned program and in every row, IS THE sha256 OF THE DUMP (.gsa) THAT YtfdociobgmbfjaaProg.lean LOADS. Nothing in Lean hashes anything: it is a label: what it is worth is what the hold of that sum in a sandbox is worth. -/
noncomputable def Try.pinned : Pinned := { name := "ytfdociobgmbfjaa", sum := "2012af281026f517592a346512ffe244ae5ba73efdcdc5886db73c9e5c9339a5", checked := Try.checked }
namespace Rows
def none {H : Type} : Left H := { results := [], args := [] }

/-- 'ostlerkeep.WireBounds': WHATEVER THE INPUT: true; the input reads as it did. -/
def wireBoundsSpec : ChangeSpec := { name := "wireBounds", fn := fun _ => fun
  | [d1, d2] => { results := [.lit (.bool true)], args := [d1, d2] }
  | _ => none }
def wireBoundsRow : OpenClaim := { program := "ytfdociobgmbfjaa", sum := "2012af281026f517592a346512ffe244ae5ba73efdcdc5886db73c9e5c9339a5", func := "ostler/ostlerkeep.WireBounds", spec := "wireBounds", unfollowed := true, recurses := true, apart := false }
def WireBoundsSaid : Prop := wireBoundsRow.holds Try.pinned (OpenSpec.ofChange wireBoundsSpec)

/-- ITS FALSE NEIGHBOUR: 'it returns false'. Refute it at one input. -/
def wireBoundsWrong : ChangeSpec := { name := "wireBounds", fn := fun _ => fun
  | [d1, d2] => { results := [.lit (.bool false)], args := [d1, d2] }
  | _ => none }
def WireBoundsWrongFalsely : Prop := wireBoundsRow.holds Try.pinned (OpenSpec.ofChange wireBoundsWrong)

/-- 'ostlerkeep.WireLong': WHATEVER THE INPUT: true; the input reads as it did. -/
def wireLongSpec : ChangeSpec := { name := "wireLong", fn := fun _ => fun
  | [d1, d2] => { results := [.lit (.bool true)], args := [d1, d2] }
  | _ => none }
def wireLongRow : OpenClaim := { program := "ytfdociobgmbfjaa", sum := "2012af281026f517592a346512ffe244ae5ba73efdcdc5886db73c9e5c9339a5", func := "ostler/ostlerkeep.WireLong", spec := "wireLong", unfollowed := true, recurses := true, apart := false }
def WireLongSaid : Prop := wireLongRow.holds Try.pinned (OpenSpec.ofChange wireLongSpec)

/-- ITS FALSE NEIGHBOUR: 'it returns false'. Refute it at one input. -/
def wireLongWrong : ChangeSpec := { name := "wireLong", fn := fun _ => fun
  | [d1, d2] => { results := [.lit (.bool false)], args := [d1, d2] }
  | _ => none }
def WireLongWrongFalsely : Prop := wireLongRow.holds Try.pinned (OpenSpec.ofChange wireLongWrong)

/-- 'ostlerkeep.SourceSwap': WHATEVER THE INPUT: true; the input reads as it did. -/
def sourceSwapSpec : ChangeSpec := { name := "sourceSwap", fn := fun _ => fun
  | [d1, d2] => { results := [.lit (.bool true)], args := [d1, d2] }
  | _ => none }
def sourceSwapRow : OpenClaim := { program := "ytfdociobgmbfjaa", sum := "2012af281026f517592a346512ffe244ae5ba73efdcdc5886db73c9e5c9339a5", func := "ostler/ostlerkeep.SourceSwap", spec := "sourceSwap", unfollowed := true, recurses := true, apart := false }
def SourceSwapSaid : Prop := sourceSwapRow.holds Try.pinned (OpenSpec.ofChange sourceSwapSpec)

/-- ITS FALSE NEIGHBOUR: 'it returns false'. Refute it at one input. -/
def sourceSwapWrong : ChangeSpec := { name := "sourceSwap", fn := fun _ => fun
  | [d1, d2] => { results := [.lit (.bool false)], args := [d1, d2] }
  | _ => none }
def SourceSwapWrongFalsely : Prop := sourceSwapRow.holds Try.pinned (OpenSpec.ofChange sourceSwapWrong)

/-- 'ostlerkeep.SourceEmpty': WHATEVER THE INPUT: true; the input reads as it did. -/
def sourceEmptySpec : ChangeSpec := { name := "sourceEmpty", fn := fun _ => fun
  | [d1, d2] => { results := [.lit (.bool true)], args := [d1, d2] }
  | _ => none }
def sourceEmptyRow : OpenClaim := { program := "ytfdociobgmbfjaa", sum := "2012af281026f517592a346512ffe244ae5ba73efdcdc5886db73c9e5c9339a5", func := "ostler/ostlerkeep.SourceEmpty", spec := "sourceEmpty", unfollowed := true, recurses := true, apart := false }
def SourceEmptySaid : Prop := sourceEmptyRow.holds Try.pinned (OpenSpec.ofChange sourceEmptySpec)

/-- ITS FALSE NEIGHBOUR: 'it returns false'. Refute it at one input. -/
def sourceEmptyWrong : ChangeSpec := { name := "sourceEmpty", fn := fun _ => fun
  | [d1, d2] => { results := [.lit (.bool false)], args := [d1, d2] }
  | _ => none }
def SourceEmptyWrongFalsely : Prop := sourceEmptyRow.holds Try.pinned (OpenSpec.ofChange sourceEmptyWrong)

/-- 'ostlerkeep.PricesRing': WHATEVER THE INPUT: true; the input reads as it did. -/
def pricesRingSpec : ChangeSpec := { name := "pricesRing", fn := fun _ => fun
  | [d] => { results := [.lit (.bool true)], args := [d] }
  | _ => none }
def pricesRingRow : OpenClaim := { program := "ytfdociobgmbfjaa", sum := "2012af281026f517592a346512ffe244ae5ba73efdcdc5886db73c9e5c9339a5", func := "ostler/ostlerkeep.PricesRing", spec := "pricesRing", unfollowed := true, recurses := true, apart := false }
def PricesRingSaid : Prop := pricesRingRow.holds Try.pinned (OpenSpec.ofChange pricesRingSpec)

/-- ITS FALSE NEIGHBOUR: 'it returns false'. Refute it at one input. -/
def pricesRingWrong : ChangeSpec := { name := "pricesRing", fn := fun _ => fun
  | [d] => { results := [.lit (.bool false)], args := [d] }
  | _ => none }
def PricesRingWrongFalsely : Prop := pricesRingRow.holds Try.pinned (OpenSpec.ofChange pricesRingWrong)

/- THE SECOND FORM. 'bulk': how many values and letters a reading holds, each counted each time it is reached (what is shared counts as often as it is met; a slice's spare places count too). A statement '..UptoSaid' is the law's where the arguments, and the package variables that the reading takes, are together of bulk at most 1048576: NARROWER than '..Said'. Prove '..Said' where nothing that the law and all that it calls make is longer than what came in: it says more and counts as full. Else prove '..UptoSaid'. A law counts once. -/
mutual
def uptoBulk {H : Type} : DataW H → Nat
  | .lit (.string bytes) => bytes.length + 1
  | .lit _ => 1
  | .nil => 1
  | .ptr d => uptoBulk d + 1
  | .slice elems spare => uptoBulkAll elems + uptoBulkAll spare + 1
  | .agg parts => uptoBulkAll parts + 1
  | .iface _ d => uptoBulk d + 1
  | .map entries => uptoBulkEntries entries + 1
  | .held _ => 1
def uptoBulkAll {H : Type} : List (DataW H) → Nat
  | [] => 0
  | d :: r => uptoBulk d + uptoBulkAll r
def uptoBulkEntries {H : Type} : List (Lit × DataW H) → Nat
  | [] => 0
  | x :: r => uptoBulkEntry x + uptoBulkEntries r
def uptoBulkEntry {H : Type} : Lit × DataW H → Nat
  | (.string bytes, d) => bytes.length + uptoBulk d + 1
  | (_, d) => uptoBulk d + 1
 end
def uptoSmall : (H : Type) → List (DataW H) → Bool := fun _ ds => decide (uptoBulkAll ds ≤ 1048576)
def OpenSpec.upto (s : _root_.Go.ChangeSpec) : _root_.Go.OpenSpec := { _root_.Go.OpenSpec.ofChange s with cond := some uptoSmall }

/-- 'ostlerkeep.WireBounds', WHERE WHAT IT READS IS OF BULK AT MOST 1048576: true; the input reads as it did. -/
def wireBoundsUptoRow : OpenClaim := { program := "ytfdociobgmbfjaa", sum := "2012af281026f517592a346512ffe244ae5ba73efdcdc5886db73c9e5c9339a5", func := "ostler/ostlerkeep.WireBounds", spec := "wireBounds", unfollowed := true, recurses := true, apart := false, narrowed := true }
def WireBoundsUptoSaid : Prop := wireBoundsUptoRow.holds Try.pinned (OpenSpec.upto wireBoundsSpec)

/-- 'ostlerkeep.WireLong', WHERE WHAT IT READS IS OF BULK AT MOST 1048576: true; the input reads as it did. -/
def wireLongUptoRow : OpenClaim := { program := "ytfdociobgmbfjaa", sum := "2012af281026f517592a346512ffe244ae5ba73efdcdc5886db73c9e5c9339a5", func := "ostler/ostlerkeep.WireLong", spec := "wireLong", unfollowed := true, recurses := true, apart := false, narrowed := true }
def WireLongUptoSaid : Prop := wireLongUptoRow.holds Try.pinned (OpenSpec.upto wireLongSpec)

/-- 'ostlerkeep.SourceSwap', WHERE WHAT IT READS IS OF BULK AT MOST 1048576: true; the input reads as it did. -/
def sourceSwapUptoRow : OpenClaim := { program := "ytfdociobgmbfjaa", sum := "2012af281026f517592a346512ffe244ae5ba73efdcdc5886db73c9e5c9339a5", func := "ostler/ostlerkeep.SourceSwap", spec := "sourceSwap", unfollowed := true, recurses := true, apart := false, narrowed := true }
def SourceSwapUptoSaid : Prop := sourceSwapUptoRow.holds Try.pinned (OpenSpec.upto sourceSwapSpec)

/-- 'ostlerkeep.SourceEmpty', WHERE WHAT IT READS IS OF BULK AT MOST 1048576: true; the input reads as it did. -/
def sourceEmptyUptoRow : OpenClaim := { program := "ytfdociobgmbfjaa", sum := "2012af281026f517592a346512ffe244ae5ba73efdcdc5886db73c9e5c9339a5", func := "ostler/ostlerkeep.SourceEmpty", spec := "sourceEmpty", unfollowed := true, recurses := true, apart := false, narrowed := true }
def SourceEmptyUptoSaid : Prop := sourceEmptyUptoRow.holds Try.pinned (OpenSpec.upto sourceEmptySpec)

/-- 'ostlerkeep.PricesRing', WHERE WHAT IT READS IS OF BULK AT MOST 1048576: true; the input reads as it did. -/
def pricesRingUptoRow : OpenClaim := { program := "ytfdociobgmbfjaa", sum := "2012af281026f517592a346512ffe244ae5ba73efdcdc5886db73c9e5c9339a5", func := "ostler/ostlerkeep.PricesRing", spec := "pricesRing", unfollowed := true, recurses := true, apart := false, narrowed := true }
def PricesRingUptoSaid : Prop := pricesRingUptoRow.holds Try.pinned (OpenSpec.upto pricesRingSpec)

end Rows
end Go.Proofs.Ytfdociobgmbfjaa
