/-
  No cell of these rows narrows 'for every input' (looked for: loops, veiled, ifaces, maps, wideKeys, modest, calm, conditions, laid).
  DERIVED. THE GIVEN ROWS OF THIS SEAT. 13 by the template 'for every input the law returns true; each argument reads behind the call as it read before'; 0 by the template 'total and deterministic' (their statements: YtaljcpoopmedmaaTotals.lean).
  GIVEN WITH THE SEED: the statements are not yours to turn. If you find one false, say at which input.
  Laid BY PROGRAM, IN A SANDBOX (cutbox-rows.mjs): the forced cells as the released guide's own fill.sh prints them over the translation 5774caedffed0b16… (all of the seat's roots in one cut). By AI agents, Wed Nov 11 2026. No macro, syntax, notation, axiom, sorry.
-/
import Derived.Test.YtaljcpoopmedmaaChecked
import GoSem.Claim
import GoSem.ClaimJoined
import GoSem.ClaimMapViews
import Derived.JoinedTies
import Derived.KernelRfl
namespace Go.Proofs.Ytaljcpoopmedmaa
/- THE CELL 'sum', in the pinned program and in every row, IS THE sha256 OF THE DUMP (.gsa) THAT YtaljcpoopmedmaaProg.lean LOADS. Nothing in Lean hashes anything: it is a label: what it is worth is what the hold of that sum in a sandbox is worth. -/
noncomputable def Try.pinned : Pinned := { name := "ytaljcpoopmedmaa", sum := "5774caedffed0b1649f8742844f37856fe8f433be0d6c720b6c96acba5ff3e89", checked := Try.checked }
namespace Rows
def none {H : Type} : Left H := { results := [], args := [] }

/-- 'ostlerkeep.StartsRise': WHATEVER THE INPUT: true; the input reads as it did. -/
def startsRiseSpec : ChangeSpec := { name := "startsRise", fn := fun _ => fun
  | [d1, d2, d3] => { results := [.lit (.bool true)], args := [d1, d2, d3] }
  | _ => none }
def startsRiseRow : OpenClaim := { program := "ytaljcpoopmedmaa", sum := "5774caedffed0b1649f8742844f37856fe8f433be0d6c720b6c96acba5ff3e89", func := "ostler/ostlerkeep.StartsRise", spec := "startsRise", apart := false }
def StartsRiseSaid : Prop := startsRiseRow.holds Try.pinned (OpenSpec.ofChange startsRiseSpec)

/-- ITS FALSE NEIGHBOUR: 'it returns false'. Refute it at one input. -/
def startsRiseWrong : ChangeSpec := { name := "startsRise", fn := fun _ => fun
  | [d1, d2, d3] => { results := [.lit (.bool false)], args := [d1, d2, d3] }
  | _ => none }
def StartsRiseWrongFalsely : Prop := startsRiseRow.holds Try.pinned (OpenSpec.ofChange startsRiseWrong)

/-- 'ostlerkeep.ShapeGood': WHATEVER THE INPUT: true; the input reads as it did. -/
def shapeGoodSpec : ChangeSpec := { name := "shapeGood", fn := fun _ => fun
  | [d1, d2, d3] => { results := [.lit (.bool true)], args := [d1, d2, d3] }
  | _ => none }
def shapeGoodRow : OpenClaim := { program := "ytaljcpoopmedmaa", sum := "5774caedffed0b1649f8742844f37856fe8f433be0d6c720b6c96acba5ff3e89", func := "ostler/ostlerkeep.ShapeGood", spec := "shapeGood", unfollowed := true, recurses := true, apart := false }
def ShapeGoodSaid : Prop := shapeGoodRow.holds Try.pinned (OpenSpec.ofChange shapeGoodSpec)

/-- ITS FALSE NEIGHBOUR: 'it returns false'. Refute it at one input. -/
def shapeGoodWrong : ChangeSpec := { name := "shapeGood", fn := fun _ => fun
  | [d1, d2, d3] => { results := [.lit (.bool false)], args := [d1, d2, d3] }
  | _ => none }
def ShapeGoodWrongFalsely : Prop := shapeGoodRow.holds Try.pinned (OpenSpec.ofChange shapeGoodWrong)

/-- 'ostlerkeep.ShapeTwice': WHATEVER THE INPUT: true; the input reads as it did. -/
def shapeTwiceSpec : ChangeSpec := { name := "shapeTwice", fn := fun _ => fun
  | [d1, d2, d3, d4] => { results := [.lit (.bool true)], args := [d1, d2, d3, d4] }
  | _ => none }
def shapeTwiceRow : OpenClaim := { program := "ytaljcpoopmedmaa", sum := "5774caedffed0b1649f8742844f37856fe8f433be0d6c720b6c96acba5ff3e89", func := "ostler/ostlerkeep.ShapeTwice", spec := "shapeTwice", unfollowed := true, recurses := true, apart := false }
def ShapeTwiceSaid : Prop := shapeTwiceRow.holds Try.pinned (OpenSpec.ofChange shapeTwiceSpec)

/-- ITS FALSE NEIGHBOUR: 'it returns false'. Refute it at one input. -/
def shapeTwiceWrong : ChangeSpec := { name := "shapeTwice", fn := fun _ => fun
  | [d1, d2, d3, d4] => { results := [.lit (.bool false)], args := [d1, d2, d3, d4] }
  | _ => none }
def ShapeTwiceWrongFalsely : Prop := shapeTwiceRow.holds Try.pinned (OpenSpec.ofChange shapeTwiceWrong)

/-- 'ostlerkeep.DeadTold': WHATEVER THE INPUT: true; the input reads as it did. -/
def deadToldSpec : ChangeSpec := { name := "deadTold", fn := fun _ => fun
  | [d1, d2, d3] => { results := [.lit (.bool true)], args := [d1, d2, d3] }
  | _ => none }
def deadToldRow : OpenClaim := { program := "ytaljcpoopmedmaa", sum := "5774caedffed0b1649f8742844f37856fe8f433be0d6c720b6c96acba5ff3e89", func := "ostler/ostlerkeep.DeadTold", spec := "deadTold", unfollowed := true, recurses := true, apart := false }
def DeadToldSaid : Prop := deadToldRow.holds Try.pinned (OpenSpec.ofChange deadToldSpec)

/-- ITS FALSE NEIGHBOUR: 'it returns false'. Refute it at one input. -/
def deadToldWrong : ChangeSpec := { name := "deadTold", fn := fun _ => fun
  | [d1, d2, d3] => { results := [.lit (.bool false)], args := [d1, d2, d3] }
  | _ => none }
def DeadToldWrongFalsely : Prop := deadToldRow.holds Try.pinned (OpenSpec.ofChange deadToldWrong)

/-- 'ostlerkeep.EdgeTold': WHATEVER THE INPUT: true; the input reads as it did. -/
def edgeToldSpec : ChangeSpec := { name := "edgeTold", fn := fun _ => fun
  | [d1, d2, d3] => { results := [.lit (.bool true)], args := [d1, d2, d3] }
  | _ => none }
def edgeToldRow : OpenClaim := { program := "ytaljcpoopmedmaa", sum := "5774caedffed0b1649f8742844f37856fe8f433be0d6c720b6c96acba5ff3e89", func := "ostler/ostlerkeep.EdgeTold", spec := "edgeTold", unfollowed := true, recurses := true, apart := false }
def EdgeToldSaid : Prop := edgeToldRow.holds Try.pinned (OpenSpec.ofChange edgeToldSpec)

/-- ITS FALSE NEIGHBOUR: 'it returns false'. Refute it at one input. -/
def edgeToldWrong : ChangeSpec := { name := "edgeTold", fn := fun _ => fun
  | [d1, d2, d3] => { results := [.lit (.bool false)], args := [d1, d2, d3] }
  | _ => none }
def EdgeToldWrongFalsely : Prop := edgeToldRow.holds Try.pinned (OpenSpec.ofChange edgeToldWrong)

/-- 'ostlerkeep.UseTold': WHATEVER THE INPUT: true; the input reads as it did. -/
def useToldSpec : ChangeSpec := { name := "useTold", fn := fun _ => fun
  | [d1, d2, d3, d4] => { results := [.lit (.bool true)], args := [d1, d2, d3, d4] }
  | _ => none }
def useToldRow : OpenClaim := { program := "ytaljcpoopmedmaa", sum := "5774caedffed0b1649f8742844f37856fe8f433be0d6c720b6c96acba5ff3e89", func := "ostler/ostlerkeep.UseTold", spec := "useTold", unfollowed := true, recurses := true, apart := false }
def UseToldSaid : Prop := useToldRow.holds Try.pinned (OpenSpec.ofChange useToldSpec)

/-- ITS FALSE NEIGHBOUR: 'it returns false'. Refute it at one input. -/
def useToldWrong : ChangeSpec := { name := "useTold", fn := fun _ => fun
  | [d1, d2, d3, d4] => { results := [.lit (.bool false)], args := [d1, d2, d3, d4] }
  | _ => none }
def UseToldWrongFalsely : Prop := useToldRow.holds Try.pinned (OpenSpec.ofChange useToldWrong)

/-- 'ostlerkeep.FlowGood': WHATEVER THE INPUT: true; the input reads as it did. -/
def flowGoodSpec : ChangeSpec := { name := "flowGood", fn := fun _ => fun
  | [d1, d2, d3] => { results := [.lit (.bool true)], args := [d1, d2, d3] }
  | _ => none }
def flowGoodRow : OpenClaim := { program := "ytaljcpoopmedmaa", sum := "5774caedffed0b1649f8742844f37856fe8f433be0d6c720b6c96acba5ff3e89", func := "ostler/ostlerkeep.FlowGood", spec := "flowGood", unfollowed := true, recurses := true, apart := false }
def FlowGoodSaid : Prop := flowGoodRow.holds Try.pinned (OpenSpec.ofChange flowGoodSpec)

/-- ITS FALSE NEIGHBOUR: 'it returns false'. Refute it at one input. -/
def flowGoodWrong : ChangeSpec := { name := "flowGood", fn := fun _ => fun
  | [d1, d2, d3] => { results := [.lit (.bool false)], args := [d1, d2, d3] }
  | _ => none }
def FlowGoodWrongFalsely : Prop := flowGoodRow.holds Try.pinned (OpenSpec.ofChange flowGoodWrong)

/-- 'ostlerkeep.IdomAbove': WHATEVER THE INPUT: true; the input reads as it did. -/
def idomAboveSpec : ChangeSpec := { name := "idomAbove", fn := fun _ => fun
  | [d1, d2, d3] => { results := [.lit (.bool true)], args := [d1, d2, d3] }
  | _ => none }
def idomAboveRow : OpenClaim := { program := "ytaljcpoopmedmaa", sum := "5774caedffed0b1649f8742844f37856fe8f433be0d6c720b6c96acba5ff3e89", func := "ostler/ostlerkeep.IdomAbove", spec := "idomAbove", unfollowed := true, recurses := true, apart := false }
def IdomAboveSaid : Prop := idomAboveRow.holds Try.pinned (OpenSpec.ofChange idomAboveSpec)

/-- ITS FALSE NEIGHBOUR: 'it returns false'. Refute it at one input. -/
def idomAboveWrong : ChangeSpec := { name := "idomAbove", fn := fun _ => fun
  | [d1, d2, d3] => { results := [.lit (.bool false)], args := [d1, d2, d3] }
  | _ => none }
def IdomAboveWrongFalsely : Prop := idomAboveRow.holds Try.pinned (OpenSpec.ofChange idomAboveWrong)

/-- 'ostlerkeep.IdomEdges': WHATEVER THE INPUT: true; the input reads as it did. -/
def idomEdgesSpec : ChangeSpec := { name := "idomEdges", fn := fun _ => fun
  | [d1, d2, d3] => { results := [.lit (.bool true)], args := [d1, d2, d3] }
  | _ => none }
def idomEdgesRow : OpenClaim := { program := "ytaljcpoopmedmaa", sum := "5774caedffed0b1649f8742844f37856fe8f433be0d6c720b6c96acba5ff3e89", func := "ostler/ostlerkeep.IdomEdges", spec := "idomEdges", unfollowed := true, recurses := true, apart := false }
def IdomEdgesSaid : Prop := idomEdgesRow.holds Try.pinned (OpenSpec.ofChange idomEdgesSpec)

/-- ITS FALSE NEIGHBOUR: 'it returns false'. Refute it at one input. -/
def idomEdgesWrong : ChangeSpec := { name := "idomEdges", fn := fun _ => fun
  | [d1, d2, d3] => { results := [.lit (.bool false)], args := [d1, d2, d3] }
  | _ => none }
def IdomEdgesWrongFalsely : Prop := idomEdgesRow.holds Try.pinned (OpenSpec.ofChange idomEdgesWrong)

/-- 'ostlerkeep.OrderAll': WHATEVER THE INPUT: true; the input reads as it did. -/
def orderAllSpec : ChangeSpec := { name := "orderAll", fn := fun _ => fun
  | [d1, d2, d3] => { results := [.lit (.bool true)], args := [d1, d2, d3] }
  | _ => none }
def orderAllRow : OpenClaim := { program := "ytaljcpoopmedmaa", sum := "5774caedffed0b1649f8742844f37856fe8f433be0d6c720b6c96acba5ff3e89", func := "ostler/ostlerkeep.OrderAll", spec := "orderAll", unfollowed := true, recurses := true, apart := false }
def OrderAllSaid : Prop := orderAllRow.holds Try.pinned (OpenSpec.ofChange orderAllSpec)

/-- ITS FALSE NEIGHBOUR: 'it returns false'. Refute it at one input. -/
def orderAllWrong : ChangeSpec := { name := "orderAll", fn := fun _ => fun
  | [d1, d2, d3] => { results := [.lit (.bool false)], args := [d1, d2, d3] }
  | _ => none }
def OrderAllWrongFalsely : Prop := orderAllRow.holds Try.pinned (OpenSpec.ofChange orderAllWrong)

/-- 'ostlerkeep.DepthLoops': WHATEVER THE INPUT: true; the input reads as it did. -/
def depthLoopsSpec : ChangeSpec := { name := "depthLoops", fn := fun _ => fun
  | [d1, d2, d3] => { results := [.lit (.bool true)], args := [d1, d2, d3] }
  | _ => none }
def depthLoopsRow : OpenClaim := { program := "ytaljcpoopmedmaa", sum := "5774caedffed0b1649f8742844f37856fe8f433be0d6c720b6c96acba5ff3e89", func := "ostler/ostlerkeep.DepthLoops", spec := "depthLoops", unfollowed := true, recurses := true, apart := false }
def DepthLoopsSaid : Prop := depthLoopsRow.holds Try.pinned (OpenSpec.ofChange depthLoopsSpec)

/-- ITS FALSE NEIGHBOUR: 'it returns false'. Refute it at one input. -/
def depthLoopsWrong : ChangeSpec := { name := "depthLoops", fn := fun _ => fun
  | [d1, d2, d3] => { results := [.lit (.bool false)], args := [d1, d2, d3] }
  | _ => none }
def DepthLoopsWrongFalsely : Prop := depthLoopsRow.holds Try.pinned (OpenSpec.ofChange depthLoopsWrong)

/-- 'ostlerkeep.SourceSteps': WHATEVER THE INPUT: true; the input reads as it did. -/
def sourceStepsSpec : ChangeSpec := { name := "sourceSteps", fn := fun _ => fun
  | [d1, d2, d3, d4, d5, d6] => { results := [.lit (.bool true)], args := [d1, d2, d3, d4, d5, d6] }
  | _ => none }
def sourceStepsRow : OpenClaim := { program := "ytaljcpoopmedmaa", sum := "5774caedffed0b1649f8742844f37856fe8f433be0d6c720b6c96acba5ff3e89", func := "ostler/ostlerkeep.SourceSteps", spec := "sourceSteps", unfollowed := true, recurses := true, apart := false }
def SourceStepsSaid : Prop := sourceStepsRow.holds Try.pinned (OpenSpec.ofChange sourceStepsSpec)

/-- ITS FALSE NEIGHBOUR: 'it returns false'. Refute it at one input. -/
def sourceStepsWrong : ChangeSpec := { name := "sourceSteps", fn := fun _ => fun
  | [d1, d2, d3, d4, d5, d6] => { results := [.lit (.bool false)], args := [d1, d2, d3, d4, d5, d6] }
  | _ => none }
def SourceStepsWrongFalsely : Prop := sourceStepsRow.holds Try.pinned (OpenSpec.ofChange sourceStepsWrong)

/-- 'ostlerkeep.SourceWays': WHATEVER THE INPUT: true; the input reads as it did. -/
def sourceWaysSpec : ChangeSpec := { name := "sourceWays", fn := fun _ => fun
  | [d1, d2, d3, d4, d5] => { results := [.lit (.bool true)], args := [d1, d2, d3, d4, d5] }
  | _ => none }
def sourceWaysRow : OpenClaim := { program := "ytaljcpoopmedmaa", sum := "5774caedffed0b1649f8742844f37856fe8f433be0d6c720b6c96acba5ff3e89", func := "ostler/ostlerkeep.SourceWays", spec := "sourceWays", unfollowed := true, recurses := true, apart := false }
def SourceWaysSaid : Prop := sourceWaysRow.holds Try.pinned (OpenSpec.ofChange sourceWaysSpec)

/-- ITS FALSE NEIGHBOUR: 'it returns false'. Refute it at one input. -/
def sourceWaysWrong : ChangeSpec := { name := "sourceWays", fn := fun _ => fun
  | [d1, d2, d3, d4, d5] => { results := [.lit (.bool false)], args := [d1, d2, d3, d4, d5] }
  | _ => none }
def SourceWaysWrongFalsely : Prop := sourceWaysRow.holds Try.pinned (OpenSpec.ofChange sourceWaysWrong)

/- THE SECOND FORM. 'bulk': how many values and letters a reading holds, each counted each time it is reached (what is shared counts as often as it is met; a slice's spare places count too). A statement '..UptoSaid' is the law's where the arguments, and the package variables that the reading takes, are together of bulk at most 1048576: NARROWER than '..Said'. Prove '..Said' where nothing that the law and all that it calls make is longer than what came in: it says more and counts as full. Else prove '..UptoSaid'. A law counts once. -/
mutual
def uptoBulk {H : Type} : DataW H → Nat
  | .lit (.string bytes) => bytes.length + 1
  | .lit _ => 1
  | .nil => 1
  | .ptr d => uptoBulk d + 1
  | .slice elems spare => uptoBulkAll elems + uptoBulkAll spare + 1
  | .agg parts => uptoBulkAll parts + 1
  | .iface _ d => uptoBulk d + 1
  | .map entries => uptoBulkEntries entries + 1
  | .held _ => 1
def uptoBulkAll {H : Type} : List (DataW H) → Nat
  | [] => 0
  | d :: r => uptoBulk d + uptoBulkAll r
def uptoBulkEntries {H : Type} : List (Lit × DataW H) → Nat
  | [] => 0
  | x :: r => uptoBulkEntry x + uptoBulkEntries r
def uptoBulkEntry {H : Type} : Lit × DataW H → Nat
  | (.string bytes, d) => bytes.length + uptoBulk d + 1
  | (_, d) => uptoBulk d + 1
 end
def uptoSmall : (H : Type) → List (DataW H) → Bool := fun _ ds => decide (uptoBulkAll ds ≤ 1048576)
def OpenSpec.upto (s : _root_.Go.ChangeSpec) : _root_.Go.OpenSpec := { _root_.Go.OpenSpec.ofChange s with cond := some uptoSmall }

/-- 'ostlerkeep.StartsRise', WHERE WHAT IT READS IS OF BULK AT MOST 1048576: true; the input reads as it did. -/
def startsRiseUptoRow : OpenClaim := { program := "ytaljcpoopmedmaa", sum := "5774caedffed0b1649f8742844f37856fe8f433be0d6c720b6c96acba5ff3e89", func := "ostler/ostlerkeep.StartsRise", spec := "startsRise", apart := false, narrowed := true }
def StartsRiseUptoSaid : Prop := startsRiseUptoRow.holds Try.pinned (OpenSpec.upto startsRiseSpec)

/-- 'ostlerkeep.ShapeGood', WHERE WHAT IT READS IS OF BULK AT MOST 1048576: true; the input reads as it did. -/
def shapeGoodUptoRow : OpenClaim := { program := "ytaljcpoopmedmaa", sum := "5774caedffed0b1649f8742844f37856fe8f433be0d6c720b6c96acba5ff3e89", func := "ostler/ostlerkeep.ShapeGood", spec := "shapeGood", unfollowed := true, recurses := true, apart := false, narrowed := true }
def ShapeGoodUptoSaid : Prop := shapeGoodUptoRow.holds Try.pinned (OpenSpec.upto shapeGoodSpec)

/-- 'ostlerkeep.ShapeTwice', WHERE WHAT IT READS IS OF BULK AT MOST 1048576: true; the input reads as it did. -/
def shapeTwiceUptoRow : OpenClaim := { program := "ytaljcpoopmedmaa", sum := "5774caedffed0b1649f8742844f37856fe8f433be0d6c720b6c96acba5ff3e89", func := "ostler/ostlerkeep.ShapeTwice", spec := "shapeTwice", unfollowed := true, recurses := true, apart := false, narrowed := true }
def ShapeTwiceUptoSaid : Prop := shapeTwiceUptoRow.holds Try.pinned (OpenSpec.upto shapeTwiceSpec)

/-- 'ostlerkeep.DeadTold', WHERE WHAT IT READS IS OF BULK AT MOST 1048576: true; the input reads as it did. -/
def deadToldUptoRow : OpenClaim := { program := "ytaljcpoopmedmaa", sum := "5774caedffed0b1649f8742844f37856fe8f433be0d6c720b6c96acba5ff3e89", func := "ostler/ostlerkeep.DeadTold", spec := "deadTold", unfollowed := true, recurses := true, apart := false, narrowed := true }
def DeadToldUptoSaid : Prop := deadToldUptoRow.holds Try.pinned (OpenSpec.upto deadToldSpec)

/-- 'ostlerkeep.EdgeTold', WHERE WHAT IT READS IS OF BULK AT MOST 1048576: true; the input reads as it did. -/
def edgeToldUptoRow : OpenClaim := { program := "ytaljcpoopmedmaa", sum := "5774caedffed0b1649f8742844f37856fe8f433be0d6c720b6c96acba5ff3e89", func := "ostler/ostlerkeep.EdgeTold", spec := "edgeTold", unfollowed := true, recurses := true, apart := false, narrowed := true }
def EdgeToldUptoSaid : Prop := edgeToldUptoRow.holds Try.pinned (OpenSpec.upto edgeToldSpec)

/-- 'ostlerkeep.UseTold', WHERE WHAT IT READS IS OF BULK AT MOST 1048576: true; the input reads as it did. -/
def useToldUptoRow : OpenClaim := { program := "ytaljcpoopmedmaa", sum := "5774caedffed0b1649f8742844f37856fe8f433be0d6c720b6c96acba5ff3e89", func := "ostler/ostlerkeep.UseTold", spec := "useTold", unfollowed := true, recurses := true, apart := false, narrowed := true }
def UseToldUptoSaid : Prop := useToldUptoRow.holds Try.pinned (OpenSpec.upto useToldSpec)

/-- 'ostlerkeep.FlowGood', WHERE WHAT IT READS IS OF BULK AT MOST 1048576: true; the input reads as it did. -/
def flowGoodUptoRow : OpenClaim := { program := "ytaljcpoopmedmaa", sum := "5774caedffed0b1649f8742844f37856fe8f433be0d6c720b6c96acba5ff3e89", func := "ostler/ostlerkeep.FlowGood", spec := "flowGood", unfollowed := true, recurses := true, apart := false, narrowed := true }
def FlowGoodUptoSaid : Prop := flowGoodUptoRow.holds Try.pinned (OpenSpec.upto flowGoodSpec)

/-- 'ostlerkeep.IdomAbove', WHERE WHAT IT READS IS OF BULK AT MOST 1048576: true; the input reads as it did. -/
def idomAboveUptoRow : OpenClaim := { program := "ytaljcpoopmedmaa", sum := "5774caedffed0b1649f8742844f37856fe8f433be0d6c720b6c96acba5ff3e89", func := "ostler/ostlerkeep.IdomAbove", spec := "idomAbove", unfollowed := true, recurses := true, apart := false, narrowed := true }
def IdomAboveUptoSaid : Prop := idomAboveUptoRow.holds Try.pinned (OpenSpec.upto idomAboveSpec)

/-- 'ostlerkeep.IdomEdges', WHERE WHAT IT READS IS OF BULK AT MOST 1048576: true; the input reads as it did. -/
def idomEdgesUptoRow : OpenClaim := { program := "ytaljcpoopmedmaa", sum := "5774caedffed0b1649f8742844f37856fe8f433be0d6c720b6c96acba5ff3e89", func := "ostler/ostlerkeep.IdomEdges", spec := "idomEdges", unfollowed := true, recurses := true, apart := false, narrowed := true }
def IdomEdgesUptoSaid : Prop := idomEdgesUptoRow.holds Try.pinned (OpenSpec.upto idomEdgesSpec)

/-- 'ostlerkeep.OrderAll', WHERE WHAT IT READS IS OF BULK AT MOST 1048576: true; the input reads as it did. -/
def orderAllUptoRow : OpenClaim := { program := "ytaljcpoopmedmaa", sum := "5774caedffed0b1649f8742844f37856fe8f433be0d6c720b6c96acba5ff3e89", func := "ostler/ostlerkeep.OrderAll", spec := "orderAll", unfollowed := true, recurses := true, apart := false, narrowed := true }
def OrderAllUptoSaid : Prop := orderAllUptoRow.holds Try.pinned (OpenSpec.upto orderAllSpec)

/-- 'ostlerkeep.DepthLoops', WHERE WHAT IT READS IS OF BULK AT MOST 1048576: true; the input reads as it did. -/
def depthLoopsUptoRow : OpenClaim := { program := "ytaljcpoopmedmaa", sum := "5774caedffed0b1649f8742844f37856fe8f433be0d6c720b6c96acba5ff3e89", func := "ostler/ostlerkeep.DepthLoops", spec := "depthLoops", unfollowed := true, recurses := true, apart := false, narrowed := true }
def DepthLoopsUptoSaid : Prop := depthLoopsUptoRow.holds Try.pinned (OpenSpec.upto depthLoopsSpec)

/-- 'ostlerkeep.SourceSteps', WHERE WHAT IT READS IS OF BULK AT MOST 1048576: true; the input reads as it did. -/
def sourceStepsUptoRow : OpenClaim := { program := "ytaljcpoopmedmaa", sum := "5774caedffed0b1649f8742844f37856fe8f433be0d6c720b6c96acba5ff3e89", func := "ostler/ostlerkeep.SourceSteps", spec := "sourceSteps", unfollowed := true, recurses := true, apart := false, narrowed := true }
def SourceStepsUptoSaid : Prop := sourceStepsUptoRow.holds Try.pinned (OpenSpec.upto sourceStepsSpec)

/-- 'ostlerkeep.SourceWays', WHERE WHAT IT READS IS OF BULK AT MOST 1048576: true; the input reads as it did. -/
def sourceWaysUptoRow : OpenClaim := { program := "ytaljcpoopmedmaa", sum := "5774caedffed0b1649f8742844f37856fe8f433be0d6c720b6c96acba5ff3e89", func := "ostler/ostlerkeep.SourceWays", spec := "sourceWays", unfollowed := true, recurses := true, apart := false, narrowed := true }
def SourceWaysUptoSaid : Prop := sourceWaysUptoRow.holds Try.pinned (OpenSpec.upto sourceWaysSpec)

end Rows
end Go.Proofs.Ytaljcpoopmedmaa
