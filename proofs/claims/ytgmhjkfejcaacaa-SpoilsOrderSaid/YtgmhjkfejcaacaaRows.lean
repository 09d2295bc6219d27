/-
  No cell of these rows narrows 'for every input' (looked for: loops, veiled, ifaces, maps, wideKeys, modest, calm, conditions, laid).
  DERIVED. THE GIVEN ROWS OF THIS SEAT. 22 by the template 'for every input the law returns true; each argument reads behind the call as it read before'; 0 by the template 'total and deterministic' (their statements: YtgmhjkfejcaacaaTotals.lean).
  GIVEN WITH THE SEED: the statements are not yours to turn. If you find one false, say at which input.
  Laid BY PROGRAM, IN A SANDBOX (cutbox-rows.mjs): the forced cells as the released guide's own fill.sh prints them over the translation 8fdd61b0518fb458… (all of the seat's roots in one cut). By AI agents, Wed Nov 11 2026. No macro, syntax, notation, axiom, sorry.
-/
import Derived.Test.YtgmhjkfejcaacaaChecked
import GoSem.Claim
import GoSem.ClaimJoined
import GoSem.ClaimMapViews
import Derived.JoinedTies
import Derived.KernelRfl
namespace Go.Proofs.Ytgmhjkfejcaacaa
/- THE CELL 'sum', in the pinned program and in every row, IS THE sha256 OF THE DUMP (.gsa) THAT YtgmhjkfejcaacaaProg.lean LOADS. Nothing in Lean hashes anything: it is a label: what it is worth is what the hold of that sum in a sandbox is worth. -/
noncomputable def Try.pinned : Pinned := { name := "ytgmhjkfejcaacaa", sum := "8fdd61b0518fb4585cf2db0b372bb36238547a2ead6ea5af6bebfdded3c8823b", checked := Try.checked }
namespace Rows
def none {H : Type} : Left H := { results := [], args := [] }

/-- 'ostlerkeep.ShapeGood': WHATEVER THE INPUT: true; the input reads as it did. -/
def shapeGoodSpec : ChangeSpec := { name := "shapeGood", fn := fun _ => fun
  | [d1, d2, d3] => { results := [.lit (.bool true)], args := [d1, d2, d3] }
  | _ => none }
def shapeGoodRow : OpenClaim := { program := "ytgmhjkfejcaacaa", sum := "8fdd61b0518fb4585cf2db0b372bb36238547a2ead6ea5af6bebfdded3c8823b", func := "ostler/ostlerkeep.ShapeGood", spec := "shapeGood", unfollowed := true, recurses := true, apart := false }
def ShapeGoodSaid : Prop := shapeGoodRow.holds Try.pinned (OpenSpec.ofChange shapeGoodSpec)

/-- ITS FALSE NEIGHBOUR: 'it returns false'. Refute it at one input. -/
def shapeGoodWrong : ChangeSpec := { name := "shapeGood", fn := fun _ => fun
  | [d1, d2, d3] => { results := [.lit (.bool false)], args := [d1, d2, d3] }
  | _ => none }
def ShapeGoodWrongFalsely : Prop := shapeGoodRow.holds Try.pinned (OpenSpec.ofChange shapeGoodWrong)

/-- 'ostlerkeep.ShapeTwice': WHATEVER THE INPUT: true; the input reads as it did. -/
def shapeTwiceSpec : ChangeSpec := { name := "shapeTwice", fn := fun _ => fun
  | [d1, d2, d3, d4] => { results := [.lit (.bool true)], args := [d1, d2, d3, d4] }
  | _ => none }
def shapeTwiceRow : OpenClaim := { program := "ytgmhjkfejcaacaa", sum := "8fdd61b0518fb4585cf2db0b372bb36238547a2ead6ea5af6bebfdded3c8823b", func := "ostler/ostlerkeep.ShapeTwice", spec := "shapeTwice", unfollowed := true, recurses := true, apart := false }
def ShapeTwiceSaid : Prop := shapeTwiceRow.holds Try.pinned (OpenSpec.ofChange shapeTwiceSpec)

/-- ITS FALSE NEIGHBOUR: 'it returns false'. Refute it at one input. -/
def shapeTwiceWrong : ChangeSpec := { name := "shapeTwice", fn := fun _ => fun
  | [d1, d2, d3, d4] => { results := [.lit (.bool false)], args := [d1, d2, d3, d4] }
  | _ => none }
def ShapeTwiceWrongFalsely : Prop := shapeTwiceRow.holds Try.pinned (OpenSpec.ofChange shapeTwiceWrong)

/-- 'ostlerkeep.ShapeFull': WHATEVER THE INPUT: true; the input reads as it did. -/
def shapeFullSpec : ChangeSpec := { name := "shapeFull", fn := fun _ => fun
  | [d1, d2, d3] => { results := [.lit (.bool true)], args := [d1, d2, d3] }
  | _ => none }
def shapeFullRow : OpenClaim := { program := "ytgmhjkfejcaacaa", sum := "8fdd61b0518fb4585cf2db0b372bb36238547a2ead6ea5af6bebfdded3c8823b", func := "ostler/ostlerkeep.ShapeFull", spec := "shapeFull", unfollowed := true, recurses := true, apart := false }
def ShapeFullSaid : Prop := shapeFullRow.holds Try.pinned (OpenSpec.ofChange shapeFullSpec)

/-- ITS FALSE NEIGHBOUR: 'it returns false'. Refute it at one input. -/
def shapeFullWrong : ChangeSpec := { name := "shapeFull", fn := fun _ => fun
  | [d1, d2, d3] => { results := [.lit (.bool false)], args := [d1, d2, d3] }
  | _ => none }
def ShapeFullWrongFalsely : Prop := shapeFullRow.holds Try.pinned (OpenSpec.ofChange shapeFullWrong)

/-- 'ostlerkeep.ClashTold': WHATEVER THE INPUT: true; the input reads as it did. -/
def clashToldSpec : ChangeSpec := { name := "clashTold", fn := fun _ => fun
  | [d1, d2, d3] => { results := [.lit (.bool true)], args := [d1, d2, d3] }
  | _ => none }
def clashToldRow : OpenClaim := { program := "ytgmhjkfejcaacaa", sum := "8fdd61b0518fb4585cf2db0b372bb36238547a2ead6ea5af6bebfdded3c8823b", func := "ostler/ostlerkeep.ClashTold", spec := "clashTold", unfollowed := true, recurses := true, apart := false }
def ClashToldSaid : Prop := clashToldRow.holds Try.pinned (OpenSpec.ofChange clashToldSpec)

/-- ITS FALSE NEIGHBOUR: 'it returns false'. Refute it at one input. -/
def clashToldWrong : ChangeSpec := { name := "clashTold", fn := fun _ => fun
  | [d1, d2, d3] => { results := [.lit (.bool false)], args := [d1, d2, d3] }
  | _ => none }
def ClashToldWrongFalsely : Prop := clashToldRow.holds Try.pinned (OpenSpec.ofChange clashToldWrong)

/-- 'ostlerkeep.ReuseBad': WHATEVER THE INPUT: true; the input reads as it did. -/
def reuseBadSpec : ChangeSpec := { name := "reuseBad", fn := fun _ => fun
  | [d1, d2] => { results := [.lit (.bool true)], args := [d1, d2] }
  | _ => none }
def reuseBadRow : OpenClaim := { program := "ytgmhjkfejcaacaa", sum := "8fdd61b0518fb4585cf2db0b372bb36238547a2ead6ea5af6bebfdded3c8823b", func := "ostler/ostlerkeep.ReuseBad", spec := "reuseBad", unfollowed := true, recurses := true, apart := false }
def ReuseBadSaid : Prop := reuseBadRow.holds Try.pinned (OpenSpec.ofChange reuseBadSpec)

/-- ITS FALSE NEIGHBOUR: 'it returns false'. Refute it at one input. -/
def reuseBadWrong : ChangeSpec := { name := "reuseBad", fn := fun _ => fun
  | [d1, d2] => { results := [.lit (.bool false)], args := [d1, d2] }
  | _ => none }
def ReuseBadWrongFalsely : Prop := reuseBadRow.holds Try.pinned (OpenSpec.ofChange reuseBadWrong)

/-- 'ostlerkeep.SizesTold': WHATEVER THE INPUT: true; the input reads as it did. -/
def sizesToldSpec : ChangeSpec := { name := "sizesTold", fn := fun _ => fun
  | [d1, d2] => { results := [.lit (.bool true)], args := [d1, d2] }
  | _ => none }
def sizesToldRow : OpenClaim := { program := "ytgmhjkfejcaacaa", sum := "8fdd61b0518fb4585cf2db0b372bb36238547a2ead6ea5af6bebfdded3c8823b", func := "ostler/ostlerkeep.SizesTold", spec := "sizesTold", unfollowed := true, recurses := true, apart := false }
def SizesToldSaid : Prop := sizesToldRow.holds Try.pinned (OpenSpec.ofChange sizesToldSpec)

/-- ITS FALSE NEIGHBOUR: 'it returns false'. Refute it at one input. -/
def sizesToldWrong : ChangeSpec := { name := "sizesTold", fn := fun _ => fun
  | [d1, d2] => { results := [.lit (.bool false)], args := [d1, d2] }
  | _ => none }
def SizesToldWrongFalsely : Prop := sizesToldRow.holds Try.pinned (OpenSpec.ofChange sizesToldWrong)

/-- 'ostlerkeep.ClassTold': WHATEVER THE INPUT: true; the input reads as it did. -/
def classToldSpec : ChangeSpec := { name := "classTold", fn := fun _ => fun
  | [d] => { results := [.lit (.bool true)], args := [d] }
  | _ => none }
def classToldRow : OpenClaim := { program := "ytgmhjkfejcaacaa", sum := "8fdd61b0518fb4585cf2db0b372bb36238547a2ead6ea5af6bebfdded3c8823b", func := "ostler/ostlerkeep.ClassTold", spec := "classTold", unfollowed := true, recurses := true, apart := false }
def ClassToldSaid : Prop := classToldRow.holds Try.pinned (OpenSpec.ofChange classToldSpec)

/-- ITS FALSE NEIGHBOUR: 'it returns false'. Refute it at one input. -/
def classToldWrong : ChangeSpec := { name := "classTold", fn := fun _ => fun
  | [d] => { results := [.lit (.bool false)], args := [d] }
  | _ => none }
def ClassToldWrongFalsely : Prop := classToldRow.holds Try.pinned (OpenSpec.ofChange classToldWrong)

/-- 'ostlerkeep.KindTold': WHATEVER THE INPUT: true; the input reads as it did. -/
def kindToldSpec : ChangeSpec := { name := "kindTold", fn := fun _ => fun
  | [d1, d2] => { results := [.lit (.bool true)], args := [d1, d2] }
  | _ => none }
def kindToldRow : OpenClaim := { program := "ytgmhjkfejcaacaa", sum := "8fdd61b0518fb4585cf2db0b372bb36238547a2ead6ea5af6bebfdded3c8823b", func := "ostler/ostlerkeep.KindTold", spec := "kindTold", unfollowed := true, recurses := true, apart := false }
def KindToldSaid : Prop := kindToldRow.holds Try.pinned (OpenSpec.ofChange kindToldSpec)

/-- ITS FALSE NEIGHBOUR: 'it returns false'. Refute it at one input. -/
def kindToldWrong : ChangeSpec := { name := "kindTold", fn := fun _ => fun
  | [d1, d2] => { results := [.lit (.bool false)], args := [d1, d2] }
  | _ => none }
def KindToldWrongFalsely : Prop := kindToldRow.holds Try.pinned (OpenSpec.ofChange kindToldWrong)

/-- 'ostlerkeep.EdgeBad': WHATEVER THE INPUT: true; the input reads as it did. -/
def edgeBadSpec : ChangeSpec := { name := "edgeBad", fn := fun _ => fun
  | [d] => { results := [.lit (.bool true)], args := [d] }
  | _ => none }
def edgeBadRow : OpenClaim := { program := "ytgmhjkfejcaacaa", sum := "8fdd61b0518fb4585cf2db0b372bb36238547a2ead6ea5af6bebfdded3c8823b", func := "ostler/ostlerkeep.EdgeBad", spec := "edgeBad", unfollowed := true, recurses := true, apart := false }
def EdgeBadSaid : Prop := edgeBadRow.holds Try.pinned (OpenSpec.ofChange edgeBadSpec)

/-- ITS FALSE NEIGHBOUR: 'it returns false'. Refute it at one input. -/
def edgeBadWrong : ChangeSpec := { name := "edgeBad", fn := fun _ => fun
  | [d] => { results := [.lit (.bool false)], args := [d] }
  | _ => none }
def EdgeBadWrongFalsely : Prop := edgeBadRow.holds Try.pinned (OpenSpec.ofChange edgeBadWrong)

/-- 'ostlerkeep.SpoilsOrder': WHATEVER THE INPUT: true; the input reads as it did. -/
def spoilsOrderSpec : ChangeSpec := { name := "spoilsOrder", fn := fun _ => fun
  | [d1, d2, d3, d4] => { results := [.lit (.bool true)], args := [d1, d2, d3, d4] }
  | _ => none }
def spoilsOrderRow : OpenClaim := { program := "ytgmhjkfejcaacaa", sum := "8fdd61b0518fb4585cf2db0b372bb36238547a2ead6ea5af6bebfdded3c8823b", func := "ostler/ostlerkeep.SpoilsOrder", spec := "spoilsOrder", unfollowed := true, recurses := true, apart := false }
def SpoilsOrderSaid : Prop := spoilsOrderRow.holds Try.pinned (OpenSpec.ofChange spoilsOrderSpec)

/-- ITS FALSE NEIGHBOUR: 'it returns false'. Refute it at one input. -/
def spoilsOrderWrong : ChangeSpec := { name := "spoilsOrder", fn := fun _ => fun
  | [d1, d2, d3, d4] => { results := [.lit (.bool false)], args := [d1, d2, d3, d4] }
  | _ => none }
def SpoilsOrderWrongFalsely : Prop := spoilsOrderRow.holds Try.pinned (OpenSpec.ofChange spoilsOrderWrong)

/-- 'ostlerkeep.EntryBare': WHATEVER THE INPUT: true; the input reads as it did. -/
def entryBareSpec : ChangeSpec := { name := "entryBare", fn := fun _ => fun
  | [d] => { results := [.lit (.bool true)], args := [d] }
  | _ => none }
def entryBareRow : OpenClaim := { program := "ytgmhjkfejcaacaa", sum := "8fdd61b0518fb4585cf2db0b372bb36238547a2ead6ea5af6bebfdded3c8823b", func := "ostler/ostlerkeep.EntryBare", spec := "entryBare", unfollowed := true, recurses := true, apart := false }
def EntryBareSaid : Prop := entryBareRow.holds Try.pinned (OpenSpec.ofChange entryBareSpec)

/-- ITS FALSE NEIGHBOUR: 'it returns false'. Refute it at one input. -/
def entryBareWrong : ChangeSpec := { name := "entryBare", fn := fun _ => fun
  | [d] => { results := [.lit (.bool false)], args := [d] }
  | _ => none }
def EntryBareWrongFalsely : Prop := entryBareRow.holds Try.pinned (OpenSpec.ofChange entryBareWrong)

/-- 'ostlerkeep.DeadTold': WHATEVER THE INPUT: true; the input reads as it did. -/
def deadToldSpec : ChangeSpec := { name := "deadTold", fn := fun _ => fun
  | [d1, d2, d3] => { results := [.lit (.bool true)], args := [d1, d2, d3] }
  | _ => none }
def deadToldRow : OpenClaim := { program := "ytgmhjkfejcaacaa", sum := "8fdd61b0518fb4585cf2db0b372bb36238547a2ead6ea5af6bebfdded3c8823b", func := "ostler/ostlerkeep.DeadTold", spec := "deadTold", unfollowed := true, recurses := true, apart := false }
def DeadToldSaid : Prop := deadToldRow.holds Try.pinned (OpenSpec.ofChange deadToldSpec)

/-- ITS FALSE NEIGHBOUR: 'it returns false'. Refute it at one input. -/
def deadToldWrong : ChangeSpec := { name := "deadTold", fn := fun _ => fun
  | [d1, d2, d3] => { results := [.lit (.bool false)], args := [d1, d2, d3] }
  | _ => none }
def DeadToldWrongFalsely : Prop := deadToldRow.holds Try.pinned (OpenSpec.ofChange deadToldWrong)

/-- 'ostlerkeep.EdgeTold': WHATEVER THE INPUT: true; the input reads as it did. -/
def edgeToldSpec : ChangeSpec := { name := "edgeTold", fn := fun _ => fun
  | [d1, d2, d3] => { results := [.lit (.bool true)], args := [d1, d2, d3] }
  | _ => none }
def edgeToldRow : OpenClaim := { program := "ytgmhjkfejcaacaa", sum := "8fdd61b0518fb4585cf2db0b372bb36238547a2ead6ea5af6bebfdded3c8823b", func := "ostler/ostlerkeep.EdgeTold", spec := "edgeTold", unfollowed := true, recurses := true, apart := false }
def EdgeToldSaid : Prop := edgeToldRow.holds Try.pinned (OpenSpec.ofChange edgeToldSpec)

/-- ITS FALSE NEIGHBOUR: 'it returns false'. Refute it at one input. -/
def edgeToldWrong : ChangeSpec := { name := "edgeTold", fn := fun _ => fun
  | [d1, d2, d3] => { results := [.lit (.bool false)], args := [d1, d2, d3] }
  | _ => none }
def EdgeToldWrongFalsely : Prop := edgeToldRow.holds Try.pinned (OpenSpec.ofChange edgeToldWrong)

/-- 'ostlerkeep.UseTold': WHATEVER THE INPUT: true; the input reads as it did. -/
def useToldSpec : ChangeSpec := { name := "useTold", fn := fun _ => fun
  | [d1, d2, d3, d4] => { results := [.lit (.bool true)], args := [d1, d2, d3, d4] }
  | _ => none }
def useToldRow : OpenClaim := { program := "ytgmhjkfejcaacaa", sum := "8fdd61b0518fb4585cf2db0b372bb36238547a2ead6ea5af6bebfdded3c8823b", func := "ostler/ostlerkeep.UseTold", spec := "useTold", unfollowed := true, recurses := true, apart := false }
def UseToldSaid : Prop := useToldRow.holds Try.pinned (OpenSpec.ofChange useToldSpec)

/-- ITS FALSE NEIGHBOUR: 'it returns false'. Refute it at one input. -/
def useToldWrong : ChangeSpec := { name := "useTold", fn := fun _ => fun
  | [d1, d2, d3, d4] => { results := [.lit (.bool false)], args := [d1, d2, d3, d4] }
  | _ => none }
def UseToldWrongFalsely : Prop := useToldRow.holds Try.pinned (OpenSpec.ofChange useToldWrong)

/-- 'ostlerkeep.FlowGood': WHATEVER THE INPUT: true; the input reads as it did. -/
def flowGoodSpec : ChangeSpec := { name := "flowGood", fn := fun _ => fun
  | [d1, d2, d3] => { results := [.lit (.bool true)], args := [d1, d2, d3] }
  | _ => none }
def flowGoodRow : OpenClaim := { program := "ytgmhjkfejcaacaa", sum := "8fdd61b0518fb4585cf2db0b372bb36238547a2ead6ea5af6bebfdded3c8823b", func := "ostler/ostlerkeep.FlowGood", spec := "flowGood", unfollowed := true, recurses := true, apart := false }
def FlowGoodSaid : Prop := flowGoodRow.holds Try.pinned (OpenSpec.ofChange flowGoodSpec)

/-- ITS FALSE NEIGHBOUR: 'it returns false'. Refute it at one input. -/
def flowGoodWrong : ChangeSpec := { name := "flowGood", fn := fun _ => fun
  | [d1, d2, d3] => { results := [.lit (.bool false)], args := [d1, d2, d3] }
  | _ => none }
def FlowGoodWrongFalsely : Prop := flowGoodRow.holds Try.pinned (OpenSpec.ofChange flowGoodWrong)

/-- 'ostlerkeep.IdomAbove': WHATEVER THE INPUT: true; the input reads as it did. -/
def idomAboveSpec : ChangeSpec := { name := "idomAbove", fn := fun _ => fun
  | [d1, d2, d3] => { results := [.lit (.bool true)], args := [d1, d2, d3] }
  | _ => none }
def idomAboveRow : OpenClaim := { program := "ytgmhjkfejcaacaa", sum := "8fdd61b0518fb4585cf2db0b372bb36238547a2ead6ea5af6bebfdded3c8823b", func := "ostler/ostlerkeep.IdomAbove", spec := "idomAbove", unfollowed := true, recurses := true, apart := false }
def IdomAboveSaid : Prop := idomAboveRow.holds Try.pinned (OpenSpec.ofChange idomAboveSpec)

/-- ITS FALSE NEIGHBOUR: 'it returns false'. Refute it at one input. -/
def idomAboveWrong : ChangeSpec := { name := "idomAbove", fn := fun _ => fun
  | [d1, d2, d3] => { results := [.lit (.bool false)], args := [d1, d2, d3] }
  | _ => none }
def IdomAboveWrongFalsely : Prop := idomAboveRow.holds Try.pinned (OpenSpec.ofChange idomAboveWrong)

/-- 'ostlerkeep.IdomEdges': WHATEVER THE INPUT: true; the input reads as it did. -/
def idomEdgesSpec : ChangeSpec := { name := "idomEdges", fn := fun _ => fun
  | [d1, d2, d3] => { results := [.lit (.bool true)], args := [d1, d2, d3] }
  | _ => none }
def idomEdgesRow : OpenClaim := { program := "ytgmhjkfejcaacaa", sum := "8fdd61b0518fb4585cf2db0b372bb36238547a2ead6ea5af6bebfdded3c8823b", func := "ostler/ostlerkeep.IdomEdges", spec := "idomEdges", unfollowed := true, recurses := true, apart := false }
def IdomEdgesSaid : Prop := idomEdgesRow.holds Try.pinned (OpenSpec.ofChange idomEdgesSpec)

/-- ITS FALSE NEIGHBOUR: 'it returns false'. Refute it at one input. -/
def idomEdgesWrong : ChangeSpec := { name := "idomEdges", fn := fun _ => fun
  | [d1, d2, d3] => { results := [.lit (.bool false)], args := [d1, d2, d3] }
  | _ => none }
def IdomEdgesWrongFalsely : Prop := idomEdgesRow.holds Try.pinned (OpenSpec.ofChange idomEdgesWrong)

/-- 'ostlerkeep.OrderAll': WHATEVER THE INPUT: true; the input reads as it did. -/
def orderAllSpec : ChangeSpec := { name := "orderAll", fn := fun _ => fun
  | [d1, d2, d3] => { results := [.lit (.bool true)], args := [d1, d2, d3] }
  | _ => none }
def orderAllRow : OpenClaim := { program := "ytgmhjkfejcaacaa", sum := "8fdd61b0518fb4585cf2db0b372bb36238547a2ead6ea5af6bebfdded3c8823b", func := "ostler/ostlerkeep.OrderAll", spec := "orderAll", unfollowed := true, recurses := true, apart := false }
def OrderAllSaid : Prop := orderAllRow.holds Try.pinned (OpenSpec.ofChange orderAllSpec)

/-- ITS FALSE NEIGHBOUR: 'it returns false'. Refute it at one input. -/
def orderAllWrong : ChangeSpec := { name := "orderAll", fn := fun _ => fun
  | [d1, d2, d3] => { results := [.lit (.bool false)], args := [d1, d2, d3] }
  | _ => none }
def OrderAllWrongFalsely : Prop := orderAllRow.holds Try.pinned (OpenSpec.ofChange orderAllWrong)

/-- 'ostlerkeep.DepthLoops': WHATEVER THE INPUT: true; the input reads as it did. -/
def depthLoopsSpec : ChangeSpec := { name := "depthLoops", fn := fun _ => fun
  | [d1, d2, d3] => { results := [.lit (.bool true)], args := [d1, d2, d3] }
  | _ => none }
def depthLoopsRow : OpenClaim := { program := "ytgmhjkfejcaacaa", sum := "8fdd61b0518fb4585cf2db0b372bb36238547a2ead6ea5af6bebfdded3c8823b", func := "ostler/ostlerkeep.DepthLoops", spec := "depthLoops", unfollowed := true, recurses := true, apart := false }
def DepthLoopsSaid : Prop := depthLoopsRow.holds Try.pinned (OpenSpec.ofChange depthLoopsSpec)

/-- ITS FALSE NEIGHBOUR: 'it returns false'. Refute it at one input. -/
def depthLoopsWrong : ChangeSpec := { name := "depthLoops", fn := fun _ => fun
  | [d1, d2, d3] => { results := [.lit (.bool false)], args := [d1, d2, d3] }
  | _ => none }
def DepthLoopsWrongFalsely : Prop := depthLoopsRow.holds Try.pinned (OpenSpec.ofChange depthLoopsWrong)

/-- 'ostlerkeep.UseBranch': WHATEVER THE INPUT: true; the input reads as it did. -/
def useBranchSpec : ChangeSpec := { name := "useBranch", fn := fun _ => fun
  | [d] => { results := [.lit (.bool true)], args := [d] }
  | _ => none }
def useBranchRow : OpenClaim := { program := "ytgmhjkfejcaacaa", sum := "8fdd61b0518fb4585cf2db0b372bb36238547a2ead6ea5af6bebfdded3c8823b", func := "ostler/ostlerkeep.UseBranch", spec := "useBranch", unfollowed := true, recurses := true, apart := false }
def UseBranchSaid : Prop := useBranchRow.holds Try.pinned (OpenSpec.ofChange useBranchSpec)

/-- ITS FALSE NEIGHBOUR: 'it returns false'. Refute it at one input. -/
def useBranchWrong : ChangeSpec := { name := "useBranch", fn := fun _ => fun
  | [d] => { results := [.lit (.bool false)], args := [d] }
  | _ => none }
def UseBranchWrongFalsely : Prop := useBranchRow.holds Try.pinned (OpenSpec.ofChange useBranchWrong)

/-- 'ostlerkeep.RingTree': WHATEVER THE INPUT: true; the input reads as it did. -/
def ringTreeSpec : ChangeSpec := { name := "ringTree", fn := fun _ => fun
  | [d] => { results := [.lit (.bool true)], args := [d] }
  | _ => none }
def ringTreeRow : OpenClaim := { program := "ytgmhjkfejcaacaa", sum := "8fdd61b0518fb4585cf2db0b372bb36238547a2ead6ea5af6bebfdded3c8823b", func := "ostler/ostlerkeep.RingTree", spec := "ringTree", unfollowed := true, recurses := true, apart := false }
def RingTreeSaid : Prop := ringTreeRow.holds Try.pinned (OpenSpec.ofChange ringTreeSpec)

/-- ITS FALSE NEIGHBOUR: 'it returns false'. Refute it at one input. -/
def ringTreeWrong : ChangeSpec := { name := "ringTree", fn := fun _ => fun
  | [d] => { results := [.lit (.bool false)], args := [d] }
  | _ => none }
def RingTreeWrongFalsely : Prop := ringTreeRow.holds Try.pinned (OpenSpec.ofChange ringTreeWrong)

/-- 'ostlerkeep.SelfLoop': WHATEVER THE INPUT: true; the input reads as it did. -/
def selfLoopSpec : ChangeSpec := { name := "selfLoop", fn := fun _ => fun
  | [d] => { results := [.lit (.bool true)], args := [d] }
  | _ => none }
def selfLoopRow : OpenClaim := { program := "ytgmhjkfejcaacaa", sum := "8fdd61b0518fb4585cf2db0b372bb36238547a2ead6ea5af6bebfdded3c8823b", func := "ostler/ostlerkeep.SelfLoop", spec := "selfLoop", unfollowed := true, recurses := true, apart := false }
def SelfLoopSaid : Prop := selfLoopRow.holds Try.pinned (OpenSpec.ofChange selfLoopSpec)

/-- ITS FALSE NEIGHBOUR: 'it returns false'. Refute it at one input. -/
def selfLoopWrong : ChangeSpec := { name := "selfLoop", fn := fun _ => fun
  | [d] => { results := [.lit (.bool false)], args := [d] }
  | _ => none }
def SelfLoopWrongFalsely : Prop := selfLoopRow.holds Try.pinned (OpenSpec.ofChange selfLoopWrong)

/- THE SECOND FORM. 'bulk': how many values and letters a reading holds, each counted each time it is reached (what is shared counts as often as it is met; a slice's spare places count too). A statement '..UptoSaid' is the law's where the arguments, and the package variables that the reading takes, are together of bulk at most 1048576: NARROWER than '..Said'. Prove '..Said' where nothing that the law and all that it calls make is longer than what came in: it says more and counts as full. Else prove '..UptoSaid'. A law counts once. -/
mutual
def uptoBulk {H : Type} : DataW H → Nat
  | .lit (.string bytes) => bytes.length + 1
  | .lit _ => 1
  | .nil => 1
  | .ptr d => uptoBulk d + 1
  | .slice elems spare => uptoBulkAll elems + uptoBulkAll spare + 1
  | .agg parts => uptoBulkAll parts + 1
  | .iface _ d => uptoBulk d + 1
  | .map entries => uptoBulkEntries entries + 1
  | .held _ => 1
def uptoBulkAll {H : Type} : List (DataW H) → Nat
  | [] => 0
  | d :: r => uptoBulk d + uptoBulkAll r
def uptoBulkEntries {H : Type} : List (Lit × DataW H) → Nat
  | [] => 0
  | x :: r => uptoBulkEntry x + uptoBulkEntries r
def uptoBulkEntry {H : Type} : Lit × DataW H → Nat
  | (.string bytes, d) => bytes.length + uptoBulk d + 1
  | (_, d) => uptoBulk d + 1
 end
def uptoSmall : (H : Type) → List (DataW H) → Bool := fun _ ds => decide (uptoBulkAll ds ≤ 1048576)
def OpenSpec.upto (s : _root_.Go.ChangeSpec) : _root_.Go.OpenSpec := { _root_.Go.OpenSpec.ofChange s with cond := some uptoSmall }

/-- 'ostlerkeep.ShapeGood', WHERE WHAT IT READS IS OF BULK AT MOST 1048576: true; the input reads as it did. -/
def shapeGoodUptoRow : OpenClaim := { program := "ytgmhjkfejcaacaa", sum := "8fdd61b0518fb4585cf2db0b372bb36238547a2ead6ea5af6bebfdded3c8823b", func := "ostler/ostlerkeep.ShapeGood", spec := "shapeGood", unfollowed := true, recurses := true, apart := false, narrowed := true }
def ShapeGoodUptoSaid : Prop := shapeGoodUptoRow.holds Try.pinned (OpenSpec.upto shapeGoodSpec)

/-- 'ostlerkeep.ShapeTwice', WHERE WHAT IT READS IS OF BULK AT MOST 1048576: true; the input reads as it did. -/
def shapeTwiceUptoRow : OpenClaim := { program := "ytgmhjkfejcaacaa", sum := "8fdd61b0518fb4585cf2db0b372bb36238547a2ead6ea5af6bebfdded3c8823b", func := "ostler/ostlerkeep.ShapeTwice", spec := "shapeTwice", unfollowed := true, recurses := true, apart := false, narrowed := true }
def ShapeTwiceUptoSaid : Prop := shapeTwiceUptoRow.holds Try.pinned (OpenSpec.upto shapeTwiceSpec)

/-- 'ostlerkeep.ShapeFull', WHERE WHAT IT READS IS OF BULK AT MOST 1048576: true; the input reads as it did. -/
def shapeFullUptoRow : OpenClaim := { program := "ytgmhjkfejcaacaa", sum := "8fdd61b0518fb4585cf2db0b372bb36238547a2ead6ea5af6bebfdded3c8823b", func := "ostler/ostlerkeep.ShapeFull", spec := "shapeFull", unfollowed := true, recurses := true, apart := false, narrowed := true }
def ShapeFullUptoSaid : Prop := shapeFullUptoRow.holds Try.pinned (OpenSpec.upto shapeFullSpec)

/-- 'ostlerkeep.ClashTold', WHERE WHAT IT READS IS OF BULK AT MOST 1048576: true; the input reads as it did. -/
def clashToldUptoRow : OpenClaim := { program := "ytgmhjkfejcaacaa", sum := "8fdd61b0518fb4585cf2db0b372bb36238547a2ead6ea5af6bebfdded3c8823b", func := "ostler/ostlerkeep.ClashTold", spec := "clashTold", unfollowed := true, recurses := true, apart := false, narrowed := true }
def ClashToldUptoSaid : Prop := clashToldUptoRow.holds Try.pinned (OpenSpec.upto clashToldSpec)

/-- 'ostlerkeep.ReuseBad', WHERE WHAT IT READS IS OF BULK AT MOST 1048576: true; the input reads as it did. -/
def reuseBadUptoRow : OpenClaim := { program := "ytgmhjkfejcaacaa", sum := "8fdd61b0518fb4585cf2db0b372bb36238547a2ead6ea5af6bebfdded3c8823b", func := "ostler/ostlerkeep.ReuseBad", spec := "reuseBad", unfollowed := true, recurses := true, apart := false, narrowed := true }
def ReuseBadUptoSaid : Prop := reuseBadUptoRow.holds Try.pinned (OpenSpec.upto reuseBadSpec)

/-- 'ostlerkeep.SizesTold', WHERE WHAT IT READS IS OF BULK AT MOST 1048576: true; the input reads as it did. -/
def sizesToldUptoRow : OpenClaim := { program := "ytgmhjkfejcaacaa", sum := "8fdd61b0518fb4585cf2db0b372bb36238547a2ead6ea5af6bebfdded3c8823b", func := "ostler/ostlerkeep.SizesTold", spec := "sizesTold", unfollowed := true, recurses := true, apart := false, narrowed := true }
def SizesToldUptoSaid : Prop := sizesToldUptoRow.holds Try.pinned (OpenSpec.upto sizesToldSpec)

/-- 'ostlerkeep.ClassTold', WHERE WHAT IT READS IS OF BULK AT MOST 1048576: true; the input reads as it did. -/
def classToldUptoRow : OpenClaim := { program := "ytgmhjkfejcaacaa", sum := "8fdd61b0518fb4585cf2db0b372bb36238547a2ead6ea5af6bebfdded3c8823b", func := "ostler/ostlerkeep.ClassTold", spec := "classTold", unfollowed := true, recurses := true, apart := false, narrowed := true }
def ClassToldUptoSaid : Prop := classToldUptoRow.holds Try.pinned (OpenSpec.upto classToldSpec)

/-- 'ostlerkeep.KindTold', WHERE WHAT IT READS IS OF BULK AT MOST 1048576: true; the input reads as it did. -/
def kindToldUptoRow : OpenClaim := { program := "ytgmhjkfejcaacaa", sum := "8fdd61b0518fb4585cf2db0b372bb36238547a2ead6ea5af6bebfdded3c8823b", func := "ostler/ostlerkeep.KindTold", spec := "kindTold", unfollowed := true, recurses := true, apart := false, narrowed := true }
def KindToldUptoSaid : Prop := kindToldUptoRow.holds Try.pinned (OpenSpec.upto kindToldSpec)

/-- 'ostlerkeep.EdgeBad', WHERE WHAT IT READS IS OF BULK AT MOST 1048576: true; the input reads as it did. -/
def edgeBadUptoRow : OpenClaim := { program := "ytgmhjkfejcaacaa", sum := "8fdd61b0518fb4585cf2db0b372bb36238547a2ead6ea5af6bebfdded3c8823b", func := "ostler/ostlerkeep.EdgeBad", spec := "edgeBad", unfollowed := true, recurses := true, apart := false, narrowed := true }
def EdgeBadUptoSaid : Prop := edgeBadUptoRow.holds Try.pinned (OpenSpec.upto edgeBadSpec)

/-- 'ostlerkeep.SpoilsOrder', WHERE WHAT IT READS IS OF BULK AT MOST 1048576: true; the input reads as it did. -/
def spoilsOrderUptoRow : OpenClaim := { program := "ytgmhjkfejcaacaa", sum := "8fdd61b0518fb4585cf2db0b372bb36238547a2ead6ea5af6bebfdded3c8823b", func := "ostler/ostlerkeep.SpoilsOrder", spec := "spoilsOrder", unfollowed := true, recurses := true, apart := false, narrowed := true }
def SpoilsOrderUptoSaid : Prop := spoilsOrderUptoRow.holds Try.pinned (OpenSpec.upto spoilsOrderSpec)

/-- 'ostlerkeep.EntryBare', WHERE WHAT IT READS IS OF BULK AT MOST 1048576: true; the input reads as it did. -/
def entryBareUptoRow : OpenClaim := { program := "ytgmhjkfejcaacaa", sum := "8fdd61b0518fb4585cf2db0b372bb36238547a2ead6ea5af6bebfdded3c8823b", func := "ostler/ostlerkeep.EntryBare", spec := "entryBare", unfollowed := true, recurses := true, apart := false, narrowed := true }
def EntryBareUptoSaid : Prop := entryBareUptoRow.holds Try.pinned (OpenSpec.upto entryBareSpec)

/-- 'ostlerkeep.DeadTold', WHERE WHAT IT READS IS OF BULK AT MOST 1048576: true; the input reads as it did. -/
def deadToldUptoRow : OpenClaim := { program := "ytgmhjkfejcaacaa", sum := "8fdd61b0518fb4585cf2db0b372bb36238547a2ead6ea5af6bebfdded3c8823b", func := "ostler/ostlerkeep.DeadTold", spec := "deadTold", unfollowed := true, recurses := true, apart := false, narrowed := true }
def DeadToldUptoSaid : Prop := deadToldUptoRow.holds Try.pinned (OpenSpec.upto deadToldSpec)

/-- 'ostlerkeep.EdgeTold', WHERE WHAT IT READS IS OF BULK AT MOST 1048576: true; the input reads as it did. -/
def edgeToldUptoRow : OpenClaim := { program := "ytgmhjkfejcaacaa", sum := "8fdd61b0518fb4585cf2db0b372bb36238547a2ead6ea5af6bebfdded3c8823b", func := "ostler/ostlerkeep.EdgeTold", spec := "edgeTold", unfollowed := true, recurses := true, apart := false, narrowed := true }
def EdgeToldUptoSaid : Prop := edgeToldUptoRow.holds Try.pinned (OpenSpec.upto edgeToldSpec)

/-- 'ostlerkeep.UseTold', WHERE WHAT IT READS IS OF BULK AT MOST 1048576: true; the input reads as it did. -/
def useToldUptoRow : OpenClaim := { program := "ytgmhjkfejcaacaa", sum := "8fdd61b0518fb4585cf2db0b372bb36238547a2ead6ea5af6bebfdded3c8823b", func := "ostler/ostlerkeep.UseTold", spec := "useTold", unfollowed := true, recurses := true, apart := false, narrowed := true }
def UseToldUptoSaid : Prop := useToldUptoRow.holds Try.pinned (OpenSpec.upto useToldSpec)

/-- 'ostlerkeep.FlowGood', WHERE WHAT IT READS IS OF BULK AT MOST 1048576: true; the input reads as it did. -/
def flowGoodUptoRow : OpenClaim := { program := "ytgmhjkfejcaacaa", sum := "8fdd61b0518fb4585cf2db0b372bb36238547a2ead6ea5af6bebfdded3c8823b", func := "ostler/ostlerkeep.FlowGood", spec := "flowGood", unfollowed := true, recurses := true, apart := false, narrowed := true }
def FlowGoodUptoSaid : Prop := flowGoodUptoRow.holds Try.pinned (OpenSpec.upto flowGoodSpec)

/-- 'ostlerkeep.IdomAbove', WHERE WHAT IT READS IS OF BULK AT MOST 1048576: true; the input reads as it did. -/
def idomAboveUptoRow : OpenClaim := { program := "ytgmhjkfejcaacaa", sum := "8fdd61b0518fb4585cf2db0b372bb36238547a2ead6ea5af6bebfdded3c8823b", func := "ostler/ostlerkeep.IdomAbove", spec := "idomAbove", unfollowed := true, recurses := true, apart := false, narrowed := true }
def IdomAboveUptoSaid : Prop := idomAboveUptoRow.holds Try.pinned (OpenSpec.upto idomAboveSpec)

/-- 'ostlerkeep.IdomEdges', WHERE WHAT IT READS IS OF BULK AT MOST 1048576: true; the input reads as it did. -/
def idomEdgesUptoRow : OpenClaim := { program := "ytgmhjkfejcaacaa", sum := "8fdd61b0518fb4585cf2db0b372bb36238547a2ead6ea5af6bebfdded3c8823b", func := "ostler/ostlerkeep.IdomEdges", spec := "idomEdges", unfollowed := true, recurses := true, apart := false, narrowed := true }
def IdomEdgesUptoSaid : Prop := idomEdgesUptoRow.holds Try.pinned (OpenSpec.upto idomEdgesSpec)

/-- 'ostlerkeep.OrderAll', WHERE WHAT IT READS IS OF BULK AT MOST 1048576: true; the input reads as it did. -/
def orderAllUptoRow : OpenClaim := { program := "ytgmhjkfejcaacaa", sum := "8fdd61b0518fb4585cf2db0b372bb36238547a2ead6ea5af6bebfdded3c8823b", func := "ostler/ostlerkeep.OrderAll", spec := "orderAll", unfollowed := true, recurses := true, apart := false, narrowed := true }
def OrderAllUptoSaid : Prop := orderAllUptoRow.holds Try.pinned (OpenSpec.upto orderAllSpec)

/-- 'ostlerkeep.DepthLoops', WHERE WHAT IT READS IS OF BULK AT MOST 1048576: true; the input reads as it did. -/
def depthLoopsUptoRow : OpenClaim := { program := "ytgmhjkfejcaacaa", sum := "8fdd61b0518fb4585cf2db0b372bb36238547a2ead6ea5af6bebfdded3c8823b", func := "ostler/ostlerkeep.DepthLoops", spec := "depthLoops", unfollowed := true, recurses := true, apart := false, narrowed := true }
def DepthLoopsUptoSaid : Prop := depthLoopsUptoRow.holds Try.pinned (OpenSpec.upto depthLoopsSpec)

/-- 'ostlerkeep.UseBranch', WHERE WHAT IT READS IS OF BULK AT MOST 1048576: true; the input reads as it did. -/
def useBranchUptoRow : OpenClaim := { program := "ytgmhjkfejcaacaa", sum := "8fdd61b0518fb4585cf2db0b372bb36238547a2ead6ea5af6bebfdded3c8823b", func := "ostler/ostlerkeep.UseBranch", spec := "useBranch", unfollowed := true, recurses := true, apart := false, narrowed := true }
def UseBranchUptoSaid : Prop := useBranchUptoRow.holds Try.pinned (OpenSpec.upto useBranchSpec)

/-- 'ostlerkeep.RingTree', WHERE WHAT IT READS IS OF BULK AT MOST 1048576: true; the input reads as it did. -/
def ringTreeUptoRow : OpenClaim := { program := "ytgmhjkfejcaacaa", sum := "8fdd61b0518fb4585cf2db0b372bb36238547a2ead6ea5af6bebfdded3c8823b", func := "ostler/ostlerkeep.RingTree", spec := "ringTree", unfollowed := true, recurses := true, apart := false, narrowed := true }
def RingTreeUptoSaid : Prop := ringTreeUptoRow.holds Try.pinned (OpenSpec.upto ringTreeSpec)

/-- 'ostlerkeep.SelfLoop', WHERE WHAT IT READS IS OF BULK AT MOST 1048576: true; the input reads as it did. -/
def selfLoopUptoRow : OpenClaim := { program := "ytgmhjkfejcaacaa", sum := "8fdd61b0518fb4585cf2db0b372bb36238547a2ead6ea5af6bebfdded3c8823b", func := "ostler/ostlerkeep.SelfLoop", spec := "selfLoop", unfollowed := true, recurses := true, apart := false, narrowed := true }
def SelfLoopUptoSaid : Prop := selfLoopUptoRow.holds Try.pinned (OpenSpec.upto selfLoopSpec)

end Rows
end Go.Proofs.Ytgmhjkfejcaacaa
