/-
  No cell of these rows narrows 'for every input' (looked for: loops, veiled, ifaces, maps, wideKeys, modest, calm, conditions, laid).
  DERIVED. THE GIVEN ROWS OF THIS SEAT. 8 by the template 'for every input the law returns true; each argument reads behind the call as it read before'; 0 by the template 'total and deterministic' (their statements: YtomkaghofeklcaaTotals.lean).
  GIVEN WITH THE SEED: the statements are not yours to turn. If you find one false, say at which input.
  Laid BY PROGRAM, IN A SANDBOX (cutbox-rows.mjs): the forced cells as the released guide's own fill.sh prints them over the translation 66cc3d64ef03c43e… (all of the seat's roots in one cut). By AI agents, Wed Nov 11 2026. No macro, syntax, notation, axiom, sorry.
-/
import Derived.Test.YtomkaghofeklcaaChecked
import GoSem.Claim
import GoSem.ClaimJoined
import GoSem.ClaimMapViews
import Derived.JoinedTies
import Derived.KernelRfl
namespace Go.Proofs.Ytomkaghofeklcaa
/- THE CELL 'sum', in the pinned program and in every row, IS THE sha256 OF THE DUMP (.gsa) THAT YtomkaghofeklcaaProg.lean LOADS. Nothing in Lean hashes anything: it is a label: what it is worth is what the hold of that sum in a sandbox is worth. -/
noncomputable def Try.pinned : Pinned := { name := "ytomkaghofeklcaa", sum := "66cc3d64ef03c43e8fb77982174b5595a319541a553d08d20bc29cf45a7f9031", checked := Try.checked }
namespace Rows
def none {H : Type} : Left H := { results := [], args := [] }

/-- 'ostlerkeep.MovesTurn': WHATEVER THE INPUT: true; the input reads as it did. -/
def movesTurnSpec : ChangeSpec := { name := "movesTurn", fn := fun _ => fun
  | [d1, d2, d3, d4] => { results := [.lit (.bool true)], args := [d1, d2, d3, d4] }
  | _ => none }
def movesTurnRow : OpenClaim := { program := "ytomkaghofeklcaa", sum := "66cc3d64ef03c43e8fb77982174b5595a319541a553d08d20bc29cf45a7f9031", func := "ostler/ostlerkeep.MovesTurn", spec := "movesTurn", unfollowed := true, recurses := true, apart := false }
def MovesTurnSaid : Prop := movesTurnRow.holds Try.pinned (OpenSpec.ofChange movesTurnSpec)

/-- ITS FALSE NEIGHBOUR: 'it returns false'. Refute it at one input. -/
def movesTurnWrong : ChangeSpec := { name := "movesTurn", fn := fun _ => fun
  | [d1, d2, d3, d4] => { results := [.lit (.bool false)], args := [d1, d2, d3, d4] }
  | _ => none }
def MovesTurnWrongFalsely : Prop := movesTurnRow.holds Try.pinned (OpenSpec.ofChange movesTurnWrong)

/-- 'ostlerkeep.MachJunk': WHATEVER THE INPUT: true; the input reads as it did. -/
def machJunkSpec : ChangeSpec := { name := "machJunk", fn := fun _ => fun
  | [d1, d2] => { results := [.lit (.bool true)], args := [d1, d2] }
  | _ => none }
def machJunkRow : OpenClaim := { program := "ytomkaghofeklcaa", sum := "66cc3d64ef03c43e8fb77982174b5595a319541a553d08d20bc29cf45a7f9031", func := "ostler/ostlerkeep.MachJunk", spec := "machJunk", unfollowed := true, recurses := true, apart := false }
def MachJunkSaid : Prop := machJunkRow.holds Try.pinned (OpenSpec.ofChange machJunkSpec)

/-- ITS FALSE NEIGHBOUR: 'it returns false'. Refute it at one input. -/
def machJunkWrong : ChangeSpec := { name := "machJunk", fn := fun _ => fun
  | [d1, d2] => { results := [.lit (.bool false)], args := [d1, d2] }
  | _ => none }
def MachJunkWrongFalsely : Prop := machJunkRow.holds Try.pinned (OpenSpec.ofChange machJunkWrong)

/-- 'ostlerkeep.MachFirst': WHATEVER THE INPUT: true; the input reads as it did. -/
def machFirstSpec : ChangeSpec := { name := "machFirst", fn := fun _ => fun
  | [d] => { results := [.lit (.bool true)], args := [d] }
  | _ => none }
def machFirstRow : OpenClaim := { program := "ytomkaghofeklcaa", sum := "66cc3d64ef03c43e8fb77982174b5595a319541a553d08d20bc29cf45a7f9031", func := "ostler/ostlerkeep.MachFirst", spec := "machFirst", unfollowed := true, recurses := true, apart := false }
def MachFirstSaid : Prop := machFirstRow.holds Try.pinned (OpenSpec.ofChange machFirstSpec)

/-- ITS FALSE NEIGHBOUR: 'it returns false'. Refute it at one input. -/
def machFirstWrong : ChangeSpec := { name := "machFirst", fn := fun _ => fun
  | [d] => { results := [.lit (.bool false)], args := [d] }
  | _ => none }
def MachFirstWrongFalsely : Prop := machFirstRow.holds Try.pinned (OpenSpec.ofChange machFirstWrong)

/-- 'ostlerkeep.JudgeMove': WHATEVER THE INPUT: true; the input reads as it did. -/
def judgeMoveSpec : ChangeSpec := { name := "judgeMove", fn := fun _ => fun
  | [d1, d2, d3] => { results := [.lit (.bool true)], args := [d1, d2, d3] }
  | _ => none }
def judgeMoveRow : OpenClaim := { program := "ytomkaghofeklcaa", sum := "66cc3d64ef03c43e8fb77982174b5595a319541a553d08d20bc29cf45a7f9031", func := "ostler/ostlerkeep.JudgeMove", spec := "judgeMove", unfollowed := true, recurses := true, apart := false }
def JudgeMoveSaid : Prop := judgeMoveRow.holds Try.pinned (OpenSpec.ofChange judgeMoveSpec)

/-- ITS FALSE NEIGHBOUR: 'it returns false'. Refute it at one input. -/
def judgeMoveWrong : ChangeSpec := { name := "judgeMove", fn := fun _ => fun
  | [d1, d2, d3] => { results := [.lit (.bool false)], args := [d1, d2, d3] }
  | _ => none }
def JudgeMoveWrongFalsely : Prop := judgeMoveRow.holds Try.pinned (OpenSpec.ofChange judgeMoveWrong)

/-- 'ostlerkeep.JudgeSpoilt': WHATEVER THE INPUT: true; the input reads as it did. -/
def judgeSpoiltSpec : ChangeSpec := { name := "judgeSpoilt", fn := fun _ => fun
  | [d1, d2] => { results := [.lit (.bool true)], args := [d1, d2] }
  | _ => none }
def judgeSpoiltRow : OpenClaim := { program := "ytomkaghofeklcaa", sum := "66cc3d64ef03c43e8fb77982174b5595a319541a553d08d20bc29cf45a7f9031", func := "ostler/ostlerkeep.JudgeSpoilt", spec := "judgeSpoilt", unfollowed := true, recurses := true, apart := false }
def JudgeSpoiltSaid : Prop := judgeSpoiltRow.holds Try.pinned (OpenSpec.ofChange judgeSpoiltSpec)

/-- ITS FALSE NEIGHBOUR: 'it returns false'. Refute it at one input. -/
def judgeSpoiltWrong : ChangeSpec := { name := "judgeSpoilt", fn := fun _ => fun
  | [d1, d2] => { results := [.lit (.bool false)], args := [d1, d2] }
  | _ => none }
def JudgeSpoiltWrongFalsely : Prop := judgeSpoiltRow.holds Try.pinned (OpenSpec.ofChange judgeSpoiltWrong)

/-- 'ostlerkeep.JudgeOver': WHATEVER THE INPUT: true; the input reads as it did. -/
def judgeOverSpec : ChangeSpec := { name := "judgeOver", fn := fun _ => fun
  | [d1, d2] => { results := [.lit (.bool true)], args := [d1, d2] }
  | _ => none }
def judgeOverRow : OpenClaim := { program := "ytomkaghofeklcaa", sum := "66cc3d64ef03c43e8fb77982174b5595a319541a553d08d20bc29cf45a7f9031", func := "ostler/ostlerkeep.JudgeOver", spec := "judgeOver", unfollowed := true, recurses := true, apart := false }
def JudgeOverSaid : Prop := judgeOverRow.holds Try.pinned (OpenSpec.ofChange judgeOverSpec)

/-- ITS FALSE NEIGHBOUR: 'it returns false'. Refute it at one input. -/
def judgeOverWrong : ChangeSpec := { name := "judgeOver", fn := fun _ => fun
  | [d1, d2] => { results := [.lit (.bool false)], args := [d1, d2] }
  | _ => none }
def JudgeOverWrongFalsely : Prop := judgeOverRow.holds Try.pinned (OpenSpec.ofChange judgeOverWrong)

/-- 'ostlerkeep.JudgeWays': WHATEVER THE INPUT: true; the input reads as it did. -/
def judgeWaysSpec : ChangeSpec := { name := "judgeWays", fn := fun _ => fun
  | [d1, d2, d3] => { results := [.lit (.bool true)], args := [d1, d2, d3] }
  | _ => none }
def judgeWaysRow : OpenClaim := { program := "ytomkaghofeklcaa", sum := "66cc3d64ef03c43e8fb77982174b5595a319541a553d08d20bc29cf45a7f9031", func := "ostler/ostlerkeep.JudgeWays", spec := "judgeWays", unfollowed := true, recurses := true, apart := false }
def JudgeWaysSaid : Prop := judgeWaysRow.holds Try.pinned (OpenSpec.ofChange judgeWaysSpec)

/-- ITS FALSE NEIGHBOUR: 'it returns false'. Refute it at one input. -/
def judgeWaysWrong : ChangeSpec := { name := "judgeWays", fn := fun _ => fun
  | [d1, d2, d3] => { results := [.lit (.bool false)], args := [d1, d2, d3] }
  | _ => none }
def JudgeWaysWrongFalsely : Prop := judgeWaysRow.holds Try.pinned (OpenSpec.ofChange judgeWaysWrong)

/-- 'ostlerkeep.JudgeLimits': WHATEVER THE INPUT: true; the input reads as it did. -/
def judgeLimitsSpec : ChangeSpec := { name := "judgeLimits", fn := fun _ => fun
  | [d1, d2, d3] => { results := [.lit (.bool true)], args := [d1, d2, d3] }
  | _ => none }
def judgeLimitsRow : OpenClaim := { program := "ytomkaghofeklcaa", sum := "66cc3d64ef03c43e8fb77982174b5595a319541a553d08d20bc29cf45a7f9031", func := "ostler/ostlerkeep.JudgeLimits", spec := "judgeLimits", unfollowed := true, recurses := true, apart := false }
def JudgeLimitsSaid : Prop := judgeLimitsRow.holds Try.pinned (OpenSpec.ofChange judgeLimitsSpec)

/-- ITS FALSE NEIGHBOUR: 'it returns false'. Refute it at one input. -/
def judgeLimitsWrong : ChangeSpec := { name := "judgeLimits", fn := fun _ => fun
  | [d1, d2, d3] => { results := [.lit (.bool false)], args := [d1, d2, d3] }
  | _ => none }
def JudgeLimitsWrongFalsely : Prop := judgeLimitsRow.holds Try.pinned (OpenSpec.ofChange judgeLimitsWrong)

/- THE SECOND FORM. 'bulk': how many values and letters a reading holds, each counted each time it is reached (what is shared counts as often as it is met; a slice's spare places count too). A statement '..UptoSaid' is the law's where the arguments, and the package variables that the reading takes, are together of bulk at most 1048576: NARROWER than '..Said'. Prove '..Said' where nothing that the law and all that it calls make is longer than what came in: it says more and counts as full. Else prove '..UptoSaid'. A law counts once. -/
mutual
def uptoBulk {H : Type} : DataW H → Nat
  | .lit (.string bytes) => bytes.length + 1
  | .lit _ => 1
  | .nil => 1
  | .ptr d => uptoBulk d + 1
  | .slice elems spare => uptoBulkAll elems + uptoBulkAll spare + 1
  | .agg parts => uptoBulkAll parts + 1
  | .iface _ d => uptoBulk d + 1
  | .map entries => uptoBulkEntries entries + 1
  | .held _ => 1
def uptoBulkAll {H : Type} : List (DataW H) → Nat
  | [] => 0
  | d :: r => uptoBulk d + uptoBulkAll r
def uptoBulkEntries {H : Type} : List (Lit × DataW H) → Nat
  | [] => 0
  | x :: r => uptoBulkEntry x + uptoBulkEntries r
def uptoBulkEntry {H : Type} : Lit × DataW H → Nat
  | (.string bytes, d) => bytes.length + uptoBulk d + 1
  | (_, d) => uptoBulk d + 1
 end
def uptoSmall : (H : Type) → List (DataW H) → Bool := fun _ ds => decide (uptoBulkAll ds ≤ 1048576)
def OpenSpec.upto (s : _root_.Go.ChangeSpec) : _root_.Go.OpenSpec := { _root_.Go.OpenSpec.ofChange s with cond := some uptoSmall }

/-- 'ostlerkeep.MovesTurn', WHERE WHAT IT READS IS OF BULK AT MOST 1048576: true; the input reads as it did. -/
def movesTurnUptoRow : OpenClaim := { program := "ytomkaghofeklcaa", sum := "66cc3d64ef03c43e8fb77982174b5595a319541a553d08d20bc29cf45a7f9031", func := "ostler/ostlerkeep.MovesTurn", spec := "movesTurn", unfollowed := true, recurses := true, apart := false, narrowed := true }
def MovesTurnUptoSaid : Prop := movesTurnUptoRow.holds Try.pinned (OpenSpec.upto movesTurnSpec)

/-- 'ostlerkeep.MachJunk', WHERE WHAT IT READS IS OF BULK AT MOST 1048576: true; the input reads as it did. -/
def machJunkUptoRow : OpenClaim := { program := "ytomkaghofeklcaa", sum := "66cc3d64ef03c43e8fb77982174b5595a319541a553d08d20bc29cf45a7f9031", func := "ostler/ostlerkeep.MachJunk", spec := "machJunk", unfollowed := true, recurses := true, apart := false, narrowed := true }
def MachJunkUptoSaid : Prop := machJunkUptoRow.holds Try.pinned (OpenSpec.upto machJunkSpec)

/-- 'ostlerkeep.MachFirst', WHERE WHAT IT READS IS OF BULK AT MOST 1048576: true; the input reads as it did. -/
def machFirstUptoRow : OpenClaim := { program := "ytomkaghofeklcaa", sum := "66cc3d64ef03c43e8fb77982174b5595a319541a553d08d20bc29cf45a7f9031", func := "ostler/ostlerkeep.MachFirst", spec := "machFirst", unfollowed := true, recurses := true, apart := false, narrowed := true }
def MachFirstUptoSaid : Prop := machFirstUptoRow.holds Try.pinned (OpenSpec.upto machFirstSpec)

/-- 'ostlerkeep.JudgeMove', WHERE WHAT IT READS IS OF BULK AT MOST 1048576: true; the input reads as it did. -/
def judgeMoveUptoRow : OpenClaim := { program := "ytomkaghofeklcaa", sum := "66cc3d64ef03c43e8fb77982174b5595a319541a553d08d20bc29cf45a7f9031", func := "ostler/ostlerkeep.JudgeMove", spec := "judgeMove", unfollowed := true, recurses := true, apart := false, narrowed := true }
def JudgeMoveUptoSaid : Prop := judgeMoveUptoRow.holds Try.pinned (OpenSpec.upto judgeMoveSpec)

/-- 'ostlerkeep.JudgeSpoilt', WHERE WHAT IT READS IS OF BULK AT MOST 1048576: true; the input reads as it did. -/
def judgeSpoiltUptoRow : OpenClaim := { program := "ytomkaghofeklcaa", sum := "66cc3d64ef03c43e8fb77982174b5595a319541a553d08d20bc29cf45a7f9031", func := "ostler/ostlerkeep.JudgeSpoilt", spec := "judgeSpoilt", unfollowed := true, recurses := true, apart := false, narrowed := true }
def JudgeSpoiltUptoSaid : Prop := judgeSpoiltUptoRow.holds Try.pinned (OpenSpec.upto judgeSpoiltSpec)

/-- 'ostlerkeep.JudgeOver', WHERE WHAT IT READS IS OF BULK AT MOST 1048576: true; the input reads as it did. -/
def judgeOverUptoRow : OpenClaim := { program := "ytomkaghofeklcaa", sum := "66cc3d64ef03c43e8fb77982174b5595a319541a553d08d20bc29cf45a7f9031", func := "ostler/ostlerkeep.JudgeOver", spec := "judgeOver", unfollowed := true, recurses := true, apart := false, narrowed := true }
def JudgeOverUptoSaid : Prop := judgeOverUptoRow.holds Try.pinned (OpenSpec.upto judgeOverSpec)

/-- 'ostlerkeep.JudgeWays', WHERE WHAT IT READS IS OF BULK AT MOST 1048576: true; the input reads as it did. -/
def judgeWaysUptoRow : OpenClaim := { program := "ytomkaghofeklcaa", sum := "66cc3d64ef03c43e8fb77982174b5595a319541a553d08d20bc29cf45a7f9031", func := "ostler/ostlerkeep.JudgeWays", spec := "judgeWays", unfollowed := true, recurses := true, apart := false, narrowed := true }
def JudgeWaysUptoSaid : Prop := judgeWaysUptoRow.holds Try.pinned (OpenSpec.upto judgeWaysSpec)

/-- 'ostlerkeep.JudgeLimits', WHERE WHAT IT READS IS OF BULK AT MOST 1048576: true; the input reads as it did. -/
def judgeLimitsUptoRow : OpenClaim := { program := "ytomkaghofeklcaa", sum := "66cc3d64ef03c43e8fb77982174b5595a319541a553d08d20bc29cf45a7f9031", func := "ostler/ostlerkeep.JudgeLimits", spec := "judgeLimits", unfollowed := true, recurses := true, apart := false, narrowed := true }
def JudgeLimitsUptoSaid : Prop := judgeLimitsUptoRow.holds Try.pinned (OpenSpec.upto judgeLimitsSpec)

end Rows
end Go.Proofs.Ytomkaghofeklcaa
