/-
  No cell of these rows narrows 'for every input' (looked for: loops, veiled, ifaces, maps, wideKeys, modest, calm, conditions, laid).
  DERIVED. THE GIVEN ROWS OF THIS SEAT. 3 by the template 'for every input the law returns true; each argument reads behind the call as it read before'; 0 by the template 'total and deterministic' (their statements: YtmafghjodghgcaaGreatTotals.lean).
  GIVEN WITH THE SEED: the statements are not yours to turn. If you find one false, say at which input.
  Laid BY PROGRAM, IN A SANDBOX (cutbox-rows.mjs): the forced cells as the released guide's own fill.sh prints them over the translation 1d691425f182dd8a… (all of the seat's roots in one cut). By AI agents, Wed Nov 11 2026. No macro, syntax, notation, axiom, sorry.
-/
import Derived.Test.YtmafghjodghgcaaGreatChecked
import GoSem.Claim
import GoSem.ClaimJoined
import GoSem.ClaimMapViews
import Derived.JoinedTies
import Derived.KernelRfl
namespace Go.Proofs.YtmafghjodghgcaaGreat
/- THE CELL 'sum', in the pinned program and in every row, IS THE sha256 OF THE DUMP (.gsa) THAT YtmafghjodghgcaaGreatProg.lean LOADS. Nothing in Lean hashes anything: it is a label: what it is worth is what the hold of that sum in a sandbox is worth. -/
noncomputable def Tryz.pinned : Pinned := { name := "ytmafghjodghgcaagreat", sum := "1d691425f182dd8a25732695878f6b948c46fdf12de1b49145af1e5d1810e45e", checked := Tryz.checked }
namespace Rows
def none {H : Type} : Left H := { results := [], args := [] }

/-- 'ostlerkeep.AllocRing': WHATEVER THE INPUT: true; the input reads as it did. -/
def allocRingSpec : ChangeSpec := { name := "allocRing", fn := fun _ => fun
  | [d1, d2, d3] => { results := [.lit (.bool true)], args := [d1, d2, d3] }
  | _ => none }
def allocRingRow : OpenClaim := { program := "ytmafghjodghgcaagreat", sum := "1d691425f182dd8a25732695878f6b948c46fdf12de1b49145af1e5d1810e45e", func := "ostler/ostlerkeep.AllocRing", spec := "allocRing", unfollowed := true, recurses := true, plainKeys := false, apart := false }
def AllocRingSaid : Prop := allocRingRow.holds Tryz.pinned (OpenSpec.ofChange allocRingSpec)

/-- ITS FALSE NEIGHBOUR: 'it returns false'. Refute it at one input. -/
def allocRingWrong : ChangeSpec := { name := "allocRing", fn := fun _ => fun
  | [d1, d2, d3] => { results := [.lit (.bool false)], args := [d1, d2, d3] }
  | _ => none }
def AllocRingWrongFalsely : Prop := allocRingRow.holds Tryz.pinned (OpenSpec.ofChange allocRingWrong)

/-- 'ostlerkeep.AllocSwap': WHATEVER THE INPUT: true; the input reads as it did. -/
def allocSwapSpec : ChangeSpec := { name := "allocSwap", fn := fun _ => fun
  | [d1, d2, d3] => { results := [.lit (.bool true)], args := [d1, d2, d3] }
  | _ => none }
def allocSwapRow : OpenClaim := { program := "ytmafghjodghgcaagreat", sum := "1d691425f182dd8a25732695878f6b948c46fdf12de1b49145af1e5d1810e45e", func := "ostler/ostlerkeep.AllocSwap", spec := "allocSwap", unfollowed := true, recurses := true, plainKeys := false, apart := false }
def AllocSwapSaid : Prop := allocSwapRow.holds Tryz.pinned (OpenSpec.ofChange allocSwapSpec)

/-- ITS FALSE NEIGHBOUR: 'it returns false'. Refute it at one input. -/
def allocSwapWrong : ChangeSpec := { name := "allocSwap", fn := fun _ => fun
  | [d1, d2, d3] => { results := [.lit (.bool false)], args := [d1, d2, d3] }
  | _ => none }
def AllocSwapWrongFalsely : Prop := allocSwapRow.holds Tryz.pinned (OpenSpec.ofChange allocSwapWrong)

/-- 'ostlerkeep.AllocTight': WHATEVER THE INPUT: true; the input reads as it did. -/
def allocTightSpec : ChangeSpec := { name := "allocTight", fn := fun _ => fun
  | [d1, d2, d3] => { results := [.lit (.bool true)], args := [d1, d2, d3] }
  | _ => none }
def allocTightRow : OpenClaim := { program := "ytmafghjodghgcaagreat", sum := "1d691425f182dd8a25732695878f6b948c46fdf12de1b49145af1e5d1810e45e", func := "ostler/ostlerkeep.AllocTight", spec := "allocTight", unfollowed := true, recurses := true, plainKeys := false, apart := false }
def AllocTightSaid : Prop := allocTightRow.holds Tryz.pinned (OpenSpec.ofChange allocTightSpec)

/-- ITS FALSE NEIGHBOUR: 'it returns false'. Refute it at one input. -/
def allocTightWrong : ChangeSpec := { name := "allocTight", fn := fun _ => fun
  | [d1, d2, d3] => { results := [.lit (.bool false)], args := [d1, d2, d3] }
  | _ => none }
def AllocTightWrongFalsely : Prop := allocTightRow.holds Tryz.pinned (OpenSpec.ofChange allocTightWrong)

/- THE SECOND FORM. 'bulk': how many values and letters a reading holds, each counted each time it is reached (what is shared counts as often as it is met; a slice's spare places count too). A statement '..UptoSaid' is the law's where the arguments, and the package variables that the reading takes, are together of bulk at most 1048576: NARROWER than '..Said'. Prove '..Said' where nothing that the law and all that it calls make is longer than what came in: it says more and counts as full. Else prove '..UptoSaid'. A law counts once. -/
mutual
def uptoBulk {H : Type} : DataW H → Nat
  | .lit (.string bytes) => bytes.length + 1
  | .lit _ => 1
  | .nil => 1
  | .ptr d => uptoBulk d + 1
  | .slice elems spare => uptoBulkAll elems + uptoBulkAll spare + 1
  | .agg parts => uptoBulkAll parts + 1
  | .iface _ d => uptoBulk d + 1
  | .map entries => uptoBulkEntries entries + 1
  | .held _ => 1
def uptoBulkAll {H : Type} : List (DataW H) → Nat
  | [] => 0
  | d :: r => uptoBulk d + uptoBulkAll r
def uptoBulkEntries {H : Type} : List (Lit × DataW H) → Nat
  | [] => 0
  | x :: r => uptoBulkEntry x + uptoBulkEntries r
def uptoBulkEntry {H : Type} : Lit × DataW H → Nat
  | (.string bytes, d) => bytes.length + uptoBulk d + 1
  | (_, d) => uptoBulk d + 1
 end
def uptoSmall : (H : Type) → List (DataW H) → Bool := fun _ ds => decide (uptoBulkAll ds ≤ 1048576)
def OpenSpec.upto (s : _root_.Go.ChangeSpec) : _root_.Go.OpenSpec := { _root_.Go.OpenSpec.ofChange s with cond := some uptoSmall }

/-- 'ostlerkeep.AllocRing', WHERE WHAT IT READS IS OF BULK AT MOST 1048576: true; the input reads as it did. -/
def allocRingUptoRow : OpenClaim := { program := "ytmafghjodghgcaagreat", sum := "1d691425f182dd8a25732695878f6b948c46fdf12de1b49145af1e5d1810e45e", func := "ostler/ostlerkeep.AllocRing", spec := "allocRing", unfollowed := true, recurses := true, plainKeys := false, apart := false, narrowed := true }
def AllocRingUptoSaid : Prop := allocRingUptoRow.holds Tryz.pinned (OpenSpec.upto allocRingSpec)

/-- 'ostlerkeep.AllocSwap', WHERE WHAT IT READS IS OF BULK AT MOST 1048576: true; the input reads as it did. -/
def allocSwapUptoRow : OpenClaim := { program := "ytmafghjodghgcaagreat", sum := "1d691425f182dd8a25732695878f6b948c46fdf12de1b49145af1e5d1810e45e", func := "ostler/ostlerkeep.AllocSwap", spec := "allocSwap", unfollowed := true, recurses := true, plainKeys := false, apart := false, narrowed := true }
def AllocSwapUptoSaid : Prop := allocSwapUptoRow.holds Tryz.pinned (OpenSpec.upto allocSwapSpec)

/-- 'ostlerkeep.AllocTight', WHERE WHAT IT READS IS OF BULK AT MOST 1048576: true; the input reads as it did. -/
def allocTightUptoRow : OpenClaim := { program := "ytmafghjodghgcaagreat", sum := "1d691425f182dd8a25732695878f6b948c46fdf12de1b49145af1e5d1810e45e", func := "ostler/ostlerkeep.AllocTight", spec := "allocTight", unfollowed := true, recurses := true, plainKeys := false, apart := false, narrowed := true }
def AllocTightUptoSaid : Prop := allocTightUptoRow.holds Tryz.pinned (OpenSpec.upto allocTightSpec)

end Rows
end Go.Proofs.YtmafghjodghgcaaGreat
