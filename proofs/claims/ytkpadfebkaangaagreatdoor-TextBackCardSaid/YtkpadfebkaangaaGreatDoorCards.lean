/-
  DERIVED. GIVEN WITH THE SEED: THE CARDS: each row of YtkpadfebkaangaaGreatDoorRows.lean that lists a variable, with what it lists TIED to the program's text (the seventh form; the later family's looks); each row that meets fmt, with fmt's text TOLD by the authors' own Lean function (tested against real Go, not proved from fmt's source: count such statements apart). THE CARD IS WHAT COUNTS. Prove the row's statement (the work); the ties are given (YtkpadfebkaangaaGreatDoorTie.lean); close each card by the builder's one call (the guide's Derived/Test/ToyasCard.lean, 'card_holds'). Laid BY PROGRAM, IN A SANDBOX (cutbox-door.mjs). By AI agents, Wed Nov 11 2026. No macro, syntax, notation, axiom, sorry.
-/
import Derived.Test.YtkpadfebkaangaaGreatDoorRows
import GoSem.ClaimSeven
namespace Go.Proofs.YtkpadfebkaangaaGreatDoor
namespace Rows

/-- THE TIED CARD OF 'ostlerkeep.TextBad'. -/
def textBadCard : Claim7 := { stood := { row := textBadRow, standIns := [], harness := (true, "574c0353cdcc496679eca19fb68c407e17298ac7681abc5d1ed051c3579dbef9"), looks := true }, kinds := [], alts := [], laidByText := true, laidKinds := [.data, .data, .data, .data, .sentinel, .sentinel, .widerDeep, .widerDeep, .pinned], laidTests := true, laidLooks := .later }
def TextBadCardSaid : Prop := Claim7.holds Tryz.pinned (.plain (OpenSpec.ofChange textBadSpec)) textBadCard

/-- THE TIED CARD OF 'ostlerkeep.TextBack'. -/
def textBackCard : Claim7 := { stood := { row := textBackRow, standIns := [], harness := (true, "574c0353cdcc496679eca19fb68c407e17298ac7681abc5d1ed051c3579dbef9"), looks := true }, kinds := [], alts := [], laidByText := true, laidKinds := [.data, .data, .data, .data, .sentinel, .sentinel, .widerDeep, .widerDeep, .pinned], laidTests := true, laidLooks := .later }
def TextBackCardSaid : Prop := Claim7.holds Tryz.pinned (.plain (OpenSpec.ofChange textBackSpec)) textBackCard

/-- THE SECOND FORM's CARD OF 'ostlerkeep.TextBad'. -/
def textBadUptoCard : Claim7 := { stood := { row := textBadUptoRow, standIns := [], harness := (true, "574c0353cdcc496679eca19fb68c407e17298ac7681abc5d1ed051c3579dbef9"), looks := true }, kinds := [], alts := [], laidByText := true, laidKinds := [.data, .data, .data, .data, .sentinel, .sentinel, .widerDeep, .widerDeep, .pinned], laidTests := true, laidLooks := .later }
def TextBadUptoCardSaid : Prop := Claim7.holds Tryz.pinned (.plain (OpenSpec.upto textBadSpec)) textBadUptoCard

/-- THE SECOND FORM's CARD OF 'ostlerkeep.TextBack'. -/
def textBackUptoCard : Claim7 := { stood := { row := textBackUptoRow, standIns := [], harness := (true, "574c0353cdcc496679eca19fb68c407e17298ac7681abc5d1ed051c3579dbef9"), looks := true }, kinds := [], alts := [], laidByText := true, laidKinds := [.data, .data, .data, .data, .sentinel, .sentinel, .widerDeep, .widerDeep, .pinned], laidTests := true, laidLooks := .later }
def TextBackUptoCardSaid : Prop := Claim7.holds Tryz.pinned (.plain (OpenSpec.upto textBackSpec)) textBackUptoCard
end Rows
end Go.Proofs.YtkpadfebkaangaaGreatDoor
