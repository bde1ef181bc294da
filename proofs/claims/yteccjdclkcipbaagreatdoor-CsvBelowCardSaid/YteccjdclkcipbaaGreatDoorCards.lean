/-
  DERIVED. GIVEN WITH THE SEED: THE CARDS: each row of YteccjdclkcipbaaGreatDoorRows.lean that lists a variable, with what it lists TIED to the program's text (the seventh form; the later family's looks); each row that meets fmt, with fmt's text TOLD by the authors' own Lean function (tested against real Go, not proved from fmt's source: count such statements apart). THE CARD IS WHAT COUNTS. Prove the row's statement (the work); the ties are given (YteccjdclkcipbaaGreatDoorTie.lean); close each card by the builder's one call (the guide's Derived/Test/ToyasCard.lean, 'card_holds'). Laid BY PROGRAM, IN A SANDBOX (cutbox-door.mjs). By AI agents, Wed Nov 11 2026. No macro, syntax, notation, axiom, sorry.
-/
import Derived.Test.YteccjdclkcipbaaGreatDoorRows
import GoSem.ClaimSeven
namespace Go.Proofs.YteccjdclkcipbaaGreatDoor
namespace Rows

/-- THE TIED CARD OF 'counterpanelaw32.CsvWrites'. -/
def csvWritesCard : Claim7 := { stood := { row := csvWritesRow, standIns := [], harness := (true, "1536a1e8058cd8718b4a626c111d463c4f6310d3dea5694fb2c1a190f2d9aa27"), looks := false }, kinds := [], alts := [], laidByText := true, laidKinds := [.data, .data, .data, .data, .data, .pinned], laidTests := true, laidLooks := .later }
def CsvWritesCardSaid : Prop := Claim7.holds Tryz.pinned (.plain (OpenSpec.ofChange csvWritesSpec)) csvWritesCard

/-- THE TIED CARD OF 'counterpanelaw32.CsvReads'. -/
def csvReadsCard : Claim7 := { stood := { row := csvReadsRow, standIns := [], harness := (true, "1536a1e8058cd8718b4a626c111d463c4f6310d3dea5694fb2c1a190f2d9aa27"), looks := false }, kinds := [], alts := [], laidByText := true, laidKinds := [.data, .data, .data, .data, .data, .pinned], laidTests := true, laidLooks := .later }
def CsvReadsCardSaid : Prop := Claim7.holds Tryz.pinned (.plain (OpenSpec.ofChange csvReadsSpec)) csvReadsCard

/-- THE TIED CARD OF 'counterpanelaw32.CsvBelow'. -/
def csvBelowCard : Claim7 := { stood := { row := csvBelowRow, standIns := [], harness := (true, "1536a1e8058cd8718b4a626c111d463c4f6310d3dea5694fb2c1a190f2d9aa27"), looks := false }, kinds := [], alts := [], laidByText := true, laidKinds := [.data, .data, .data, .data, .data, .pinned], laidTests := true, laidLooks := .later }
def CsvBelowCardSaid : Prop := Claim7.holds Tryz.pinned (.plain (OpenSpec.ofChange csvBelowSpec)) csvBelowCard

/-- THE SECOND FORM's CARD OF 'counterpanelaw32.CsvWrites'. -/
def csvWritesUptoCard : Claim7 := { stood := { row := csvWritesUptoRow, standIns := [], harness := (true, "1536a1e8058cd8718b4a626c111d463c4f6310d3dea5694fb2c1a190f2d9aa27"), looks := false }, kinds := [], alts := [], laidByText := true, laidKinds := [.data, .data, .data, .data, .data, .pinned], laidTests := true, laidLooks := .later }
def CsvWritesUptoCardSaid : Prop := Claim7.holds Tryz.pinned (.plain (OpenSpec.upto csvWritesSpec)) csvWritesUptoCard

/-- THE SECOND FORM's CARD OF 'counterpanelaw32.CsvReads'. -/
def csvReadsUptoCard : Claim7 := { stood := { row := csvReadsUptoRow, standIns := [], harness := (true, "1536a1e8058cd8718b4a626c111d463c4f6310d3dea5694fb2c1a190f2d9aa27"), looks := false }, kinds := [], alts := [], laidByText := true, laidKinds := [.data, .data, .data, .data, .data, .pinned], laidTests := true, laidLooks := .later }
def CsvReadsUptoCardSaid : Prop := Claim7.holds Tryz.pinned (.plain (OpenSpec.upto csvReadsSpec)) csvReadsUptoCard

/-- THE SECOND FORM's CARD OF 'counterpanelaw32.CsvBelow'. -/
def csvBelowUptoCard : Claim7 := { stood := { row := csvBelowUptoRow, standIns := [], harness := (true, "1536a1e8058cd8718b4a626c111d463c4f6310d3dea5694fb2c1a190f2d9aa27"), looks := false }, kinds := [], alts := [], laidByText := true, laidKinds := [.data, .data, .data, .data, .data, .pinned], laidTests := true, laidLooks := .later }
def CsvBelowUptoCardSaid : Prop := Claim7.holds Tryz.pinned (.plain (OpenSpec.upto csvBelowSpec)) csvBelowUptoCard
end Rows
end Go.Proofs.YteccjdclkcipbaaGreatDoor
