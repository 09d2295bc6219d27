/-
  No cell of these rows narrows 'for every input' (looked for: loops, veiled, ifaces, maps, wideKeys, modest, calm, conditions, laid).
  DERIVED. THE GIVEN ROWS OF THIS SEAT. 9 by the template 'for every input the law returns true; each argument reads behind the call as it read before'; 0 by the template 'total and deterministic' (their statements: YtgikghbgdpcapaaTotals.lean).
  GIVEN WITH THE SEED: the statements are not yours to turn. If you find one false, say at which input.
  Laid BY PROGRAM, IN A SANDBOX (cutbox-rows.mjs): the forced cells as the released guide's own fill.sh prints them over the translation b1e1d43e7581b26d… (all of the seat's roots in one cut). By AI agents, Wed Nov 11 2026. No macro, syntax, notation, axiom, sorry.
-/
import Derived.Test.YtgikghbgdpcapaaChecked
import GoSem.Claim
import GoSem.ClaimJoined
import GoSem.ClaimMapViews
import Derived.JoinedTies
import Derived.KernelRfl
namespace Go.Proofs.Ytgikghbgdpcapaa
/- THE CELL 'sum', in the pinned program and in every row, IS THE sha256 OF THE DUMP (.gsa) THAT YtgikghbgdpcapaaProg.lean LOADS. Nothing in Lean hashes anything: it is a label: what it is worth is what the hold of that sum in a sandbox is worth. -/
noncomputable def Try.pinned : Pinned := { name := "ytgikghbgdpcapaa", sum := "b1e1d43e7581b26d6bb369d7bf4fd010cf23b2bbf2ee424fb347fc14254c931b", checked := Try.checked }
namespace Rows
def none {H : Type} : Left H := { results := [], args := [] }

/-- 'ostlerkeep.SpansLine': WHATEVER THE INPUT: true; the input reads as it did. -/
def spansLineSpec : ChangeSpec := { name := "spansLine", fn := fun _ => fun
  | [d1, d2] => { results := [.lit (.bool true)], args := [d1, d2] }
  | _ => none }
def spansLineRow : OpenClaim := { program := "ytgikghbgdpcapaa", sum := "b1e1d43e7581b26d6bb369d7bf4fd010cf23b2bbf2ee424fb347fc14254c931b", func := "ostler/ostlerkeep.SpansLine", spec := "spansLine", unfollowed := true, recurses := true, apart := false }
def SpansLineSaid : Prop := spansLineRow.holds Try.pinned (OpenSpec.ofChange spansLineSpec)

/-- ITS FALSE NEIGHBOUR: 'it returns false'. Refute it at one input. -/
def spansLineWrong : ChangeSpec := { name := "spansLine", fn := fun _ => fun
  | [d1, d2] => { results := [.lit (.bool false)], args := [d1, d2] }
  | _ => none }
def SpansLineWrongFalsely : Prop := spansLineRow.holds Try.pinned (OpenSpec.ofChange spansLineWrong)

/-- 'ostlerkeep.SpansDead': WHATEVER THE INPUT: true; the input reads as it did. -/
def spansDeadSpec : ChangeSpec := { name := "spansDead", fn := fun _ => fun
  | [d1, d2] => { results := [.lit (.bool true)], args := [d1, d2] }
  | _ => none }
def spansDeadRow : OpenClaim := { program := "ytgikghbgdpcapaa", sum := "b1e1d43e7581b26d6bb369d7bf4fd010cf23b2bbf2ee424fb347fc14254c931b", func := "ostler/ostlerkeep.SpansDead", spec := "spansDead", unfollowed := true, recurses := true, apart := false }
def SpansDeadSaid : Prop := spansDeadRow.holds Try.pinned (OpenSpec.ofChange spansDeadSpec)

/-- ITS FALSE NEIGHBOUR: 'it returns false'. Refute it at one input. -/
def spansDeadWrong : ChangeSpec := { name := "spansDead", fn := fun _ => fun
  | [d1, d2] => { results := [.lit (.bool false)], args := [d1, d2] }
  | _ => none }
def SpansDeadWrongFalsely : Prop := spansDeadRow.holds Try.pinned (OpenSpec.ofChange spansDeadWrong)

/-- 'ostlerkeep.SpansRing': WHATEVER THE INPUT: true; the input reads as it did. -/
def spansRingSpec : ChangeSpec := { name := "spansRing", fn := fun _ => fun
  | [d] => { results := [.lit (.bool true)], args := [d] }
  | _ => none }
def spansRingRow : OpenClaim := { program := "ytgikghbgdpcapaa", sum := "b1e1d43e7581b26d6bb369d7bf4fd010cf23b2bbf2ee424fb347fc14254c931b", func := "ostler/ostlerkeep.SpansRing", spec := "spansRing", unfollowed := true, recurses := true, apart := false }
def SpansRingSaid : Prop := spansRingRow.holds Try.pinned (OpenSpec.ofChange spansRingSpec)

/-- ITS FALSE NEIGHBOUR: 'it returns false'. Refute it at one input. -/
def spansRingWrong : ChangeSpec := { name := "spansRing", fn := fun _ => fun
  | [d] => { results := [.lit (.bool false)], args := [d] }
  | _ => none }
def SpansRingWrongFalsely : Prop := spansRingRow.holds Try.pinned (OpenSpec.ofChange spansRingWrong)

/-- 'ostlerkeep.ClaimsReuse': WHATEVER THE INPUT: true; the input reads as it did. -/
def claimsReuseSpec : ChangeSpec := { name := "claimsReuse", fn := fun _ => fun
  | [d] => { results := [.lit (.bool true)], args := [d] }
  | _ => none }
def claimsReuseRow : OpenClaim := { program := "ytgikghbgdpcapaa", sum := "b1e1d43e7581b26d6bb369d7bf4fd010cf23b2bbf2ee424fb347fc14254c931b", func := "ostler/ostlerkeep.ClaimsReuse", spec := "claimsReuse", unfollowed := true, recurses := true, apart := false }
def ClaimsReuseSaid : Prop := claimsReuseRow.holds Try.pinned (OpenSpec.ofChange claimsReuseSpec)

/-- ITS FALSE NEIGHBOUR: 'it returns false'. Refute it at one input. -/
def claimsReuseWrong : ChangeSpec := { name := "claimsReuse", fn := fun _ => fun
  | [d] => { results := [.lit (.bool false)], args := [d] }
  | _ => none }
def ClaimsReuseWrongFalsely : Prop := claimsReuseRow.holds Try.pinned (OpenSpec.ofChange claimsReuseWrong)

/-- 'ostlerkeep.PricesLine': WHATEVER THE INPUT: true; the input reads as it did. -/
def pricesLineSpec : ChangeSpec := { name := "pricesLine", fn := fun _ => fun
  | [d] => { results := [.lit (.bool true)], args := [d] }
  | _ => none }
def pricesLineRow : OpenClaim := { program := "ytgikghbgdpcapaa", sum := "b1e1d43e7581b26d6bb369d7bf4fd010cf23b2bbf2ee424fb347fc14254c931b", func := "ostler/ostlerkeep.PricesLine", spec := "pricesLine", unfollowed := true, recurses := true, apart := false }
def PricesLineSaid : Prop := pricesLineRow.holds Try.pinned (OpenSpec.ofChange pricesLineSpec)

/-- ITS FALSE NEIGHBOUR: 'it returns false'. Refute it at one input. -/
def pricesLineWrong : ChangeSpec := { name := "pricesLine", fn := fun _ => fun
  | [d] => { results := [.lit (.bool false)], args := [d] }
  | _ => none }
def PricesLineWrongFalsely : Prop := pricesLineRow.holds Try.pinned (OpenSpec.ofChange pricesLineWrong)

/-- 'ostlerkeep.GroupsRing': WHATEVER THE INPUT: true; the input reads as it did. -/
def groupsRingSpec : ChangeSpec := { name := "groupsRing", fn := fun _ => fun
  | [d] => { results := [.lit (.bool true)], args := [d] }
  | _ => none }
def groupsRingRow : OpenClaim := { program := "ytgikghbgdpcapaa", sum := "b1e1d43e7581b26d6bb369d7bf4fd010cf23b2bbf2ee424fb347fc14254c931b", func := "ostler/ostlerkeep.GroupsRing", spec := "groupsRing", unfollowed := true, recurses := true, apart := false }
def GroupsRingSaid : Prop := groupsRingRow.holds Try.pinned (OpenSpec.ofChange groupsRingSpec)

/-- ITS FALSE NEIGHBOUR: 'it returns false'. Refute it at one input. -/
def groupsRingWrong : ChangeSpec := { name := "groupsRing", fn := fun _ => fun
  | [d] => { results := [.lit (.bool false)], args := [d] }
  | _ => none }
def GroupsRingWrongFalsely : Prop := groupsRingRow.holds Try.pinned (OpenSpec.ofChange groupsRingWrong)

/-- 'ostlerkeep.GroupsReuse': WHATEVER THE INPUT: true; the input reads as it did. -/
def groupsReuseSpec : ChangeSpec := { name := "groupsReuse", fn := fun _ => fun
  | [d1, d2] => { results := [.lit (.bool true)], args := [d1, d2] }
  | _ => none }
def groupsReuseRow : OpenClaim := { program := "ytgikghbgdpcapaa", sum := "b1e1d43e7581b26d6bb369d7bf4fd010cf23b2bbf2ee424fb347fc14254c931b", func := "ostler/ostlerkeep.GroupsReuse", spec := "groupsReuse", unfollowed := true, recurses := true, apart := false }
def GroupsReuseSaid : Prop := groupsReuseRow.holds Try.pinned (OpenSpec.ofChange groupsReuseSpec)

/-- ITS FALSE NEIGHBOUR: 'it returns false'. Refute it at one input. -/
def groupsReuseWrong : ChangeSpec := { name := "groupsReuse", fn := fun _ => fun
  | [d1, d2] => { results := [.lit (.bool false)], args := [d1, d2] }
  | _ => none }
def GroupsReuseWrongFalsely : Prop := groupsReuseRow.holds Try.pinned (OpenSpec.ofChange groupsReuseWrong)

/-- 'ostlerkeep.HomesSeam': WHATEVER THE INPUT: true; the input reads as it did. -/
def homesSeamSpec : ChangeSpec := { name := "homesSeam", fn := fun _ => fun
  | [d1, d2, d3] => { results := [.lit (.bool true)], args := [d1, d2, d3] }
  | _ => none }
def homesSeamRow : OpenClaim := { program := "ytgikghbgdpcapaa", sum := "b1e1d43e7581b26d6bb369d7bf4fd010cf23b2bbf2ee424fb347fc14254c931b", func := "ostler/ostlerkeep.HomesSeam", spec := "homesSeam", unfollowed := true, recurses := true, apart := false }
def HomesSeamSaid : Prop := homesSeamRow.holds Try.pinned (OpenSpec.ofChange homesSeamSpec)

/-- ITS FALSE NEIGHBOUR: 'it returns false'. Refute it at one input. -/
def homesSeamWrong : ChangeSpec := { name := "homesSeam", fn := fun _ => fun
  | [d1, d2, d3] => { results := [.lit (.bool false)], args := [d1, d2, d3] }
  | _ => none }
def HomesSeamWrongFalsely : Prop := homesSeamRow.holds Try.pinned (OpenSpec.ofChange homesSeamWrong)

/-- 'ostlerkeep.HomesClaimed': WHATEVER THE INPUT: true; the input reads as it did. -/
def homesClaimedSpec : ChangeSpec := { name := "homesClaimed", fn := fun _ => fun
  | [d1, d2, d3] => { results := [.lit (.bool true)], args := [d1, d2, d3] }
  | _ => none }
def homesClaimedRow : OpenClaim := { program := "ytgikghbgdpcapaa", sum := "b1e1d43e7581b26d6bb369d7bf4fd010cf23b2bbf2ee424fb347fc14254c931b", func := "ostler/ostlerkeep.HomesClaimed", spec := "homesClaimed", unfollowed := true, recurses := true, apart := false }
def HomesClaimedSaid : Prop := homesClaimedRow.holds Try.pinned (OpenSpec.ofChange homesClaimedSpec)

/-- ITS FALSE NEIGHBOUR: 'it returns false'. Refute it at one input. -/
def homesClaimedWrong : ChangeSpec := { name := "homesClaimed", fn := fun _ => fun
  | [d1, d2, d3] => { results := [.lit (.bool false)], args := [d1, d2, d3] }
  | _ => none }
def HomesClaimedWrongFalsely : Prop := homesClaimedRow.holds Try.pinned (OpenSpec.ofChange homesClaimedWrong)

/- THE SECOND FORM. 'bulk': how many values and letters a reading holds, each counted each time it is reached (what is shared counts as often as it is met; a slice's spare places count too). A statement '..UptoSaid' is the law's where the arguments, and the package variables that the reading takes, are together of bulk at most 1048576: NARROWER than '..Said'. Prove '..Said' where nothing that the law and all that it calls make is longer than what came in: it says more and counts as full. Else prove '..UptoSaid'. A law counts once. -/
mutual
def uptoBulk {H : Type} : DataW H → Nat
  | .lit (.string bytes) => bytes.length + 1
  | .lit _ => 1
  | .nil => 1
  | .ptr d => uptoBulk d + 1
  | .slice elems spare => uptoBulkAll elems + uptoBulkAll spare + 1
  | .agg parts => uptoBulkAll parts + 1
  | .iface _ d => uptoBulk d + 1
  | .map entries => uptoBulkEntries entries + 1
  | .held _ => 1
def uptoBulkAll {H : Type} : List (DataW H) → Nat
  | [] => 0
  | d :: r => uptoBulk d + uptoBulkAll r
def uptoBulkEntries {H : Type} : List (Lit × DataW H) → Nat
  | [] => 0
  | x :: r => uptoBulkEntry x + uptoBulkEntries r
def uptoBulkEntry {H : Type} : Lit × DataW H → Nat
  | (.string bytes, d) => bytes.length + uptoBulk d + 1
  | (_, d) => uptoBulk d + 1
 end
def uptoSmall : (H : Type) → List (DataW H) → Bool := fun _ ds => decide (uptoBulkAll ds ≤ 1048576)
def OpenSpec.upto (s : _root_.Go.ChangeSpec) : _root_.Go.OpenSpec := { _root_.Go.OpenSpec.ofChange s with cond := some uptoSmall }

/-- 'ostlerkeep.SpansLine', WHERE WHAT IT READS IS OF BULK AT MOST 1048576: true; the input reads as it did. -/
def spansLineUptoRow : OpenClaim := { program := "ytgikghbgdpcapaa", sum := "b1e1d43e7581b26d6bb369d7bf4fd010cf23b2bbf2ee424fb347fc14254c931b", func := "ostler/ostlerkeep.SpansLine", spec := "spansLine", unfollowed := true, recurses := true, apart := false, narrowed := true }
def SpansLineUptoSaid : Prop := spansLineUptoRow.holds Try.pinned (OpenSpec.upto spansLineSpec)

/-- 'ostlerkeep.SpansDead', WHERE WHAT IT READS IS OF BULK AT MOST 1048576: true; the input reads as it did. -/
def spansDeadUptoRow : OpenClaim := { program := "ytgikghbgdpcapaa", sum := "b1e1d43e7581b26d6bb369d7bf4fd010cf23b2bbf2ee424fb347fc14254c931b", func := "ostler/ostlerkeep.SpansDead", spec := "spansDead", unfollowed := true, recurses := true, apart := false, narrowed := true }
def SpansDeadUptoSaid : Prop := spansDeadUptoRow.holds Try.pinned (OpenSpec.upto spansDeadSpec)

/-- 'ostlerkeep.SpansRing', WHERE WHAT IT READS IS OF BULK AT MOST 1048576: true; the input reads as it did. -/
def spansRingUptoRow : OpenClaim := { program := "ytgikghbgdpcapaa", sum := "b1e1d43e7581b26d6bb369d7bf4fd010cf23b2bbf2ee424fb347fc14254c931b", func := "ostler/ostlerkeep.SpansRing", spec := "spansRing", unfollowed := true, recurses := true, apart := false, narrowed := true }
def SpansRingUptoSaid : Prop := spansRingUptoRow.holds Try.pinned (OpenSpec.upto spansRingSpec)

/-- 'ostlerkeep.ClaimsReuse', WHERE WHAT IT READS IS OF BULK AT MOST 1048576: true; the input reads as it did. -/
def claimsReuseUptoRow : OpenClaim := { program := "ytgikghbgdpcapaa", sum := "b1e1d43e7581b26d6bb369d7bf4fd010cf23b2bbf2ee424fb347fc14254c931b", func := "ostler/ostlerkeep.ClaimsReuse", spec := "claimsReuse", unfollowed := true, recurses := true, apart := false, narrowed := true }
def ClaimsReuseUptoSaid : Prop := claimsReuseUptoRow.holds Try.pinned (OpenSpec.upto claimsReuseSpec)

/-- 'ostlerkeep.PricesLine', WHERE WHAT IT READS IS OF BULK AT MOST 1048576: true; the input reads as it did. -/
def pricesLineUptoRow : OpenClaim := { program := "ytgikghbgdpcapaa", sum := "b1e1d43e7581b26d6bb369d7bf4fd010cf23b2bbf2ee424fb347fc14254c931b", func := "ostler/ostlerkeep.PricesLine", spec := "pricesLine", unfollowed := true, recurses := true, apart := false, narrowed := true }
def PricesLineUptoSaid : Prop := pricesLineUptoRow.holds Try.pinned (OpenSpec.upto pricesLineSpec)

/-- 'ostlerkeep.GroupsRing', WHERE WHAT IT READS IS OF BULK AT MOST 1048576: true; the input reads as it did. -/
def groupsRingUptoRow : OpenClaim := { program := "ytgikghbgdpcapaa", sum := "b1e1d43e7581b26d6bb369d7bf4fd010cf23b2bbf2ee424fb347fc14254c931b", func := "ostler/ostlerkeep.GroupsRing", spec := "groupsRing", unfollowed := true, recurses := true, apart := false, narrowed := true }
def GroupsRingUptoSaid : Prop := groupsRingUptoRow.holds Try.pinned (OpenSpec.upto groupsRingSpec)

/-- 'ostlerkeep.GroupsReuse', WHERE WHAT IT READS IS OF BULK AT MOST 1048576: true; the input reads as it did. -/
def groupsReuseUptoRow : OpenClaim := { program := "ytgikghbgdpcapaa", sum := "b1e1d43e7581b26d6bb369d7bf4fd010cf23b2bbf2ee424fb347fc14254c931b", func := "ostler/ostlerkeep.GroupsReuse", spec := "groupsReuse", unfollowed := true, recurses := true, apart := false, narrowed := true }
def GroupsReuseUptoSaid : Prop := groupsReuseUptoRow.holds Try.pinned (OpenSpec.upto groupsReuseSpec)

/-- 'ostlerkeep.HomesSeam', WHERE WHAT IT READS IS OF BULK AT MOST 1048576: true; the input reads as it did. -/
def homesSeamUptoRow : OpenClaim := { program := "ytgikghbgdpcapaa", sum := "b1e1d43e7581b26d6bb369d7bf4fd010cf23b2bbf2ee424fb347fc14254c931b", func := "ostler/ostlerkeep.HomesSeam", spec := "homesSeam", unfollowed := true, recurses := true, apart := false, narrowed := true }
def HomesSeamUptoSaid : Prop := homesSeamUptoRow.holds Try.pinned (OpenSpec.upto homesSeamSpec)

/-- 'ostlerkeep.HomesClaimed', WHERE WHAT IT READS IS OF BULK AT MOST 1048576: true; the input reads as it did. -/
def homesClaimedUptoRow : OpenClaim := { program := "ytgikghbgdpcapaa", sum := "b1e1d43e7581b26d6bb369d7bf4fd010cf23b2bbf2ee424fb347fc14254c931b", func := "ostler/ostlerkeep.HomesClaimed", spec := "homesClaimed", unfollowed := true, recurses := true, apart := false, narrowed := true }
def HomesClaimedUptoSaid : Prop := homesClaimedUptoRow.holds Try.pinned (OpenSpec.upto homesClaimedSpec)

end Rows
end Go.Proofs.Ytgikghbgdpcapaa
