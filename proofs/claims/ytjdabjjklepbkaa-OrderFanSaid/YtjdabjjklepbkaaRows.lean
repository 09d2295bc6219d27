/-
  No cell of these rows narrows 'for every input' (looked for: loops, veiled, ifaces, maps, wideKeys, modest, calm, conditions, laid).
  DERIVED. THE GIVEN ROWS OF THIS SEAT. 5 by the template 'for every input the law returns true; each argument reads behind the call as it read before'; 0 by the template 'total and deterministic' (their statements: YtjdabjjklepbkaaTotals.lean).
  GIVEN WITH THE SEED: the statements are not yours to turn. If you find one false, say at which input.
  Laid BY PROGRAM, IN A SANDBOX (cutbox-rows.mjs): the forced cells as the released guide's own fill.sh prints them over the translation 7a42c0352278e5a8… (all of the seat's roots in one cut). By AI agents, Wed Nov 11 2026. No macro, syntax, notation, axiom, sorry.
-/
import Derived.Test.YtjdabjjklepbkaaChecked
import GoSem.Claim
import GoSem.ClaimJoined
import GoSem.ClaimMapViews
import Derived.JoinedTies
import Derived.KernelRfl
namespace Go.Proofs.Ytjdabjjklepbkaa
/- THE CELL 'sum', in the pinned program and in every row, IS THE sha256 OF THE DUMP (.gsa) THAT YtjdabjjklepbkaaProg.lean LOADS. Nothing in Lean hashes anything: it is a label: what it is worth is what the hold of that sum in a sandbox is worth. -/
noncomputable def Try.pinned : Pinned := { name := "ytjdabjjklepbkaa", sum := "7a42c0352278e5a81a8f9ff90e3302125960f3b98da8dbddd60f867e1215d5d7", checked := Try.checked }
namespace Rows
def none {H : Type} : Left H := { results := [], args := [] }

/-- 'ostlerkeep.OrderRound': WHATEVER THE INPUT: true; the input reads as it did. -/
def orderRoundSpec : ChangeSpec := { name := "orderRound", fn := fun _ => fun
  | [d1, d2, d3] => { results := [.lit (.bool true)], args := [d1, d2, d3] }
  | _ => none }
def orderRoundRow : OpenClaim := { program := "ytjdabjjklepbkaa", sum := "7a42c0352278e5a81a8f9ff90e3302125960f3b98da8dbddd60f867e1215d5d7", func := "ostler/ostlerkeep.OrderRound", spec := "orderRound", unfollowed := true, recurses := true, plainKeys := false, apart := false }
def OrderRoundSaid : Prop := orderRoundRow.holds Try.pinned (OpenSpec.ofChange orderRoundSpec)

/-- ITS FALSE NEIGHBOUR: 'it returns false'. Refute it at one input. -/
def orderRoundWrong : ChangeSpec := { name := "orderRound", fn := fun _ => fun
  | [d1, d2, d3] => { results := [.lit (.bool false)], args := [d1, d2, d3] }
  | _ => none }
def OrderRoundWrongFalsely : Prop := orderRoundRow.holds Try.pinned (OpenSpec.ofChange orderRoundWrong)

/-- 'ostlerkeep.OrderBad': WHATEVER THE INPUT: true; the input reads as it did. -/
def orderBadSpec : ChangeSpec := { name := "orderBad", fn := fun _ => fun
  | [d1, d2, d3] => { results := [.lit (.bool true)], args := [d1, d2, d3] }
  | _ => none }
def orderBadRow : OpenClaim := { program := "ytjdabjjklepbkaa", sum := "7a42c0352278e5a81a8f9ff90e3302125960f3b98da8dbddd60f867e1215d5d7", func := "ostler/ostlerkeep.OrderBad", spec := "orderBad", unfollowed := true, recurses := true, plainKeys := false, apart := false }
def OrderBadSaid : Prop := orderBadRow.holds Try.pinned (OpenSpec.ofChange orderBadSpec)

/-- ITS FALSE NEIGHBOUR: 'it returns false'. Refute it at one input. -/
def orderBadWrong : ChangeSpec := { name := "orderBad", fn := fun _ => fun
  | [d1, d2, d3] => { results := [.lit (.bool false)], args := [d1, d2, d3] }
  | _ => none }
def OrderBadWrongFalsely : Prop := orderBadRow.holds Try.pinned (OpenSpec.ofChange orderBadWrong)

/-- 'ostlerkeep.OrderNone': WHATEVER THE INPUT: true; the input reads as it did. -/
def orderNoneSpec : ChangeSpec := { name := "orderNone", fn := fun _ => fun
  | [d1, d2] => { results := [.lit (.bool true)], args := [d1, d2] }
  | _ => none }
def orderNoneRow : OpenClaim := { program := "ytjdabjjklepbkaa", sum := "7a42c0352278e5a81a8f9ff90e3302125960f3b98da8dbddd60f867e1215d5d7", func := "ostler/ostlerkeep.OrderNone", spec := "orderNone", unfollowed := true, recurses := true, plainKeys := false, apart := false }
def OrderNoneSaid : Prop := orderNoneRow.holds Try.pinned (OpenSpec.ofChange orderNoneSpec)

/-- ITS FALSE NEIGHBOUR: 'it returns false'. Refute it at one input. -/
def orderNoneWrong : ChangeSpec := { name := "orderNone", fn := fun _ => fun
  | [d1, d2] => { results := [.lit (.bool false)], args := [d1, d2] }
  | _ => none }
def OrderNoneWrongFalsely : Prop := orderNoneRow.holds Try.pinned (OpenSpec.ofChange orderNoneWrong)

/-- 'ostlerkeep.OrderFan': WHATEVER THE INPUT: true; the input reads as it did. -/
def orderFanSpec : ChangeSpec := { name := "orderFan", fn := fun _ => fun
  | [d1, d2, d3] => { results := [.lit (.bool true)], args := [d1, d2, d3] }
  | _ => none }
def orderFanRow : OpenClaim := { program := "ytjdabjjklepbkaa", sum := "7a42c0352278e5a81a8f9ff90e3302125960f3b98da8dbddd60f867e1215d5d7", func := "ostler/ostlerkeep.OrderFan", spec := "orderFan", unfollowed := true, recurses := true, plainKeys := false, apart := false }
def OrderFanSaid : Prop := orderFanRow.holds Try.pinned (OpenSpec.ofChange orderFanSpec)

/-- ITS FALSE NEIGHBOUR: 'it returns false'. Refute it at one input. -/
def orderFanWrong : ChangeSpec := { name := "orderFan", fn := fun _ => fun
  | [d1, d2, d3] => { results := [.lit (.bool false)], args := [d1, d2, d3] }
  | _ => none }
def OrderFanWrongFalsely : Prop := orderFanRow.holds Try.pinned (OpenSpec.ofChange orderFanWrong)

/-- 'ostlerkeep.OrderSlots': WHATEVER THE INPUT: true; the input reads as it did. -/
def orderSlotsSpec : ChangeSpec := { name := "orderSlots", fn := fun _ => fun
  | [d1, d2] => { results := [.lit (.bool true)], args := [d1, d2] }
  | _ => none }
def orderSlotsRow : OpenClaim := { program := "ytjdabjjklepbkaa", sum := "7a42c0352278e5a81a8f9ff90e3302125960f3b98da8dbddd60f867e1215d5d7", func := "ostler/ostlerkeep.OrderSlots", spec := "orderSlots", unfollowed := true, recurses := true, plainKeys := false, apart := false }
def OrderSlotsSaid : Prop := orderSlotsRow.holds Try.pinned (OpenSpec.ofChange orderSlotsSpec)

/-- ITS FALSE NEIGHBOUR: 'it returns false'. Refute it at one input. -/
def orderSlotsWrong : ChangeSpec := { name := "orderSlots", fn := fun _ => fun
  | [d1, d2] => { results := [.lit (.bool false)], args := [d1, d2] }
  | _ => none }
def OrderSlotsWrongFalsely : Prop := orderSlotsRow.holds Try.pinned (OpenSpec.ofChange orderSlotsWrong)

/- THE SECOND FORM. 'bulk': how many values and letters a reading holds, each counted each time it is reached (what is shared counts as often as it is met; a slice's spare places count too). A statement '..UptoSaid' is the law's where the arguments, and the package variables that the reading takes, are together of bulk at most 1048576: NARROWER than '..Said'. Prove '..Said' where nothing that the law and all that it calls make is longer than what came in: it says more and counts as full. Else prove '..UptoSaid'. A law counts once. -/
mutual
def uptoBulk {H : Type} : DataW H → Nat
  | .lit (.string bytes) => bytes.length + 1
  | .lit _ => 1
  | .nil => 1
  | .ptr d => uptoBulk d + 1
  | .slice elems spare => uptoBulkAll elems + uptoBulkAll spare + 1
  | .agg parts => uptoBulkAll parts + 1
  | .iface _ d => uptoBulk d + 1
  | .map entries => uptoBulkEntries entries + 1
  | .held _ => 1
def uptoBulkAll {H : Type} : List (DataW H) → Nat
  | [] => 0
  | d :: r => uptoBulk d + uptoBulkAll r
def uptoBulkEntries {H : Type} : List (Lit × DataW H) → Nat
  | [] => 0
  | x :: r => uptoBulkEntry x + uptoBulkEntries r
def uptoBulkEntry {H : Type} : Lit × DataW H → Nat
  | (.string bytes, d) => bytes.length + uptoBulk d + 1
  | (_, d) => uptoBulk d + 1
 end
def uptoSmall : (H : Type) → List (DataW H) → Bool := fun _ ds => decide (uptoBulkAll ds ≤ 1048576)
def OpenSpec.upto (s : _root_.Go.ChangeSpec) : _root_.Go.OpenSpec := { _root_.Go.OpenSpec.ofChange s with cond := some uptoSmall }

/-- 'ostlerkeep.OrderRound', WHERE WHAT IT READS IS OF BULK AT MOST 1048576: true; the input reads as it did. -/
def orderRoundUptoRow : OpenClaim := { program := "ytjdabjjklepbkaa", sum := "7a42c0352278e5a81a8f9ff90e3302125960f3b98da8dbddd60f867e1215d5d7", func := "ostler/ostlerkeep.OrderRound", spec := "orderRound", unfollowed := true, recurses := true, plainKeys := false, apart := false, narrowed := true }
def OrderRoundUptoSaid : Prop := orderRoundUptoRow.holds Try.pinned (OpenSpec.upto orderRoundSpec)

/-- 'ostlerkeep.OrderBad', WHERE WHAT IT READS IS OF BULK AT MOST 1048576: true; the input reads as it did. -/
def orderBadUptoRow : OpenClaim := { program := "ytjdabjjklepbkaa", sum := "7a42c0352278e5a81a8f9ff90e3302125960f3b98da8dbddd60f867e1215d5d7", func := "ostler/ostlerkeep.OrderBad", spec := "orderBad", unfollowed := true, recurses := true, plainKeys := false, apart := false, narrowed := true }
def OrderBadUptoSaid : Prop := orderBadUptoRow.holds Try.pinned (OpenSpec.upto orderBadSpec)

/-- 'ostlerkeep.OrderNone', WHERE WHAT IT READS IS OF BULK AT MOST 1048576: true; the input reads as it did. -/
def orderNoneUptoRow : OpenClaim := { program := "ytjdabjjklepbkaa", sum := "7a42c0352278e5a81a8f9ff90e3302125960f3b98da8dbddd60f867e1215d5d7", func := "ostler/ostlerkeep.OrderNone", spec := "orderNone", unfollowed := true, recurses := true, plainKeys := false, apart := false, narrowed := true }
def OrderNoneUptoSaid : Prop := orderNoneUptoRow.holds Try.pinned (OpenSpec.upto orderNoneSpec)

/-- 'ostlerkeep.OrderFan', WHERE WHAT IT READS IS OF BULK AT MOST 1048576: true; the input reads as it did. -/
def orderFanUptoRow : OpenClaim := { program := "ytjdabjjklepbkaa", sum := "7a42c0352278e5a81a8f9ff90e3302125960f3b98da8dbddd60f867e1215d5d7", func := "ostler/ostlerkeep.OrderFan", spec := "orderFan", unfollowed := true, recurses := true, plainKeys := false, apart := false, narrowed := true }
def OrderFanUptoSaid : Prop := orderFanUptoRow.holds Try.pinned (OpenSpec.upto orderFanSpec)

/-- 'ostlerkeep.OrderSlots', WHERE WHAT IT READS IS OF BULK AT MOST 1048576: true; the input reads as it did. -/
def orderSlotsUptoRow : OpenClaim := { program := "ytjdabjjklepbkaa", sum := "7a42c0352278e5a81a8f9ff90e3302125960f3b98da8dbddd60f867e1215d5d7", func := "ostler/ostlerkeep.OrderSlots", spec := "orderSlots", unfollowed := true, recurses := true, plainKeys := false, apart := false, narrowed := true }
def OrderSlotsUptoSaid : Prop := orderSlotsUptoRow.holds Try.pinned (OpenSpec.upto orderSlotsSpec)

end Rows
end Go.Proofs.Ytjdabjjklepbkaa
