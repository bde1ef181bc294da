/-
  DERIVED. GIVEN WITH THE SEED: THE CARDS: each row of YtpdaloohgfnbhaaGreatDoorRows.lean that lists a variable, with what it lists TIED to the program's text (the seventh form; the later family's looks); each row that meets fmt, with fmt's text TOLD by the authors' own Lean function (tested against real Go, not proved from fmt's source: count such statements apart). THE CARD IS WHAT COUNTS. Prove the row's statement (the work); the ties are given (YtpdaloohgfnbhaaGreatDoorTie.lean); close each card by the builder's one call (the guide's Derived/Test/ToyasCard.lean, 'card_holds'). Laid BY PROGRAM, IN A SANDBOX (cutbox-door.mjs). By AI agents, Wed Nov 11 2026. No macro, syntax, notation, axiom, sorry.
-/
import Derived.Test.YtpdaloohgfnbhaaGreatDoorRows
import GoSem.ClaimSeven
namespace Go.Proofs.YtpdaloohgfnbhaaGreatDoor
namespace Rows

/-- THE TIED CARD OF 'counterpanelaw12.FtextParts'. -/
def ftextPartsCard : Claim7 := { stood := { row := ftextPartsRow, standIns := [], harness := (true, "57448661a946db660636dcbdea39733426d69d4e73cbd400b13c9a808109145d"), looks := false }, kinds := [], alts := [], laidByText := true, laidKinds := [.data, .data, .data, .data, .pinned], laidTests := true, laidLooks := .later }
def FtextPartsCardSaid : Prop := Claim7.holds Tryz.pinned (.plain (OpenSpec.ofChange ftextPartsSpec)) ftextPartsCard

/-- THE TIED CARD OF 'counterpanelaw12.FtextSplits'. -/
def ftextSplitsCard : Claim7 := { stood := { row := ftextSplitsRow, standIns := [], harness := (true, "57448661a946db660636dcbdea39733426d69d4e73cbd400b13c9a808109145d"), looks := false }, kinds := [], alts := [], laidByText := true, laidKinds := [.data, .data, .data, .data, .pinned], laidTests := true, laidLooks := .later }
def FtextSplitsCardSaid : Prop := Claim7.holds Tryz.pinned (.plain (OpenSpec.ofChange ftextSplitsSpec)) ftextSplitsCard

/-- THE TIED CARD OF 'counterpanelaw12.FtextTrims'. -/
def ftextTrimsCard : Claim7 := { stood := { row := ftextTrimsRow, standIns := [], harness := (true, "57448661a946db660636dcbdea39733426d69d4e73cbd400b13c9a808109145d"), looks := false }, kinds := [], alts := [], laidByText := true, laidKinds := [.data, .data, .data, .data, .pinned], laidTests := true, laidLooks := .later }
def FtextTrimsCardSaid : Prop := Claim7.holds Tryz.pinned (.plain (OpenSpec.ofChange ftextTrimsSpec)) ftextTrimsCard

/-- THE TIED CARD OF 'counterpanelaw12.FtextLens'. -/
def ftextLensCard : Claim7 := { stood := { row := ftextLensRow, standIns := [], harness := (true, "57448661a946db660636dcbdea39733426d69d4e73cbd400b13c9a808109145d"), looks := false }, kinds := [], alts := [], laidByText := true, laidKinds := [.data, .data, .data, .data, .pinned], laidTests := true, laidLooks := .later }
def FtextLensCardSaid : Prop := Claim7.holds Tryz.pinned (.plain (OpenSpec.ofChange ftextLensSpec)) ftextLensCard

/-- THE TIED CARD OF 'counterpanelaw12.FtextNames'. -/
def ftextNamesCard : Claim7 := { stood := { row := ftextNamesRow, standIns := [], harness := (true, "57448661a946db660636dcbdea39733426d69d4e73cbd400b13c9a808109145d"), looks := false }, kinds := [], alts := [], laidByText := true, laidKinds := [.data, .data, .data, .data, .pinned], laidTests := true, laidLooks := .later }
def FtextNamesCardSaid : Prop := Claim7.holds Tryz.pinned (.plain (OpenSpec.ofChange ftextNamesSpec)) ftextNamesCard

/-- THE SECOND FORM's CARD OF 'counterpanelaw12.FtextParts'. -/
def ftextPartsUptoCard : Claim7 := { stood := { row := ftextPartsUptoRow, standIns := [], harness := (true, "57448661a946db660636dcbdea39733426d69d4e73cbd400b13c9a808109145d"), looks := false }, kinds := [], alts := [], laidByText := true, laidKinds := [.data, .data, .data, .data, .pinned], laidTests := true, laidLooks := .later }
def FtextPartsUptoCardSaid : Prop := Claim7.holds Tryz.pinned (.plain (OpenSpec.upto ftextPartsSpec)) ftextPartsUptoCard

/-- THE SECOND FORM's CARD OF 'counterpanelaw12.FtextSplits'. -/
def ftextSplitsUptoCard : Claim7 := { stood := { row := ftextSplitsUptoRow, standIns := [], harness := (true, "57448661a946db660636dcbdea39733426d69d4e73cbd400b13c9a808109145d"), looks := false }, kinds := [], alts := [], laidByText := true, laidKinds := [.data, .data, .data, .data, .pinned], laidTests := true, laidLooks := .later }
def FtextSplitsUptoCardSaid : Prop := Claim7.holds Tryz.pinned (.plain (OpenSpec.upto ftextSplitsSpec)) ftextSplitsUptoCard

/-- THE SECOND FORM's CARD OF 'counterpanelaw12.FtextTrims'. -/
def ftextTrimsUptoCard : Claim7 := { stood := { row := ftextTrimsUptoRow, standIns := [], harness := (true, "57448661a946db660636dcbdea39733426d69d4e73cbd400b13c9a808109145d"), looks := false }, kinds := [], alts := [], laidByText := true, laidKinds := [.data, .data, .data, .data, .pinned], laidTests := true, laidLooks := .later }
def FtextTrimsUptoCardSaid : Prop := Claim7.holds Tryz.pinned (.plain (OpenSpec.upto ftextTrimsSpec)) ftextTrimsUptoCard

/-- THE SECOND FORM's CARD OF 'counterpanelaw12.FtextLens'. -/
def ftextLensUptoCard : Claim7 := { stood := { row := ftextLensUptoRow, standIns := [], harness := (true, "57448661a946db660636dcbdea39733426d69d4e73cbd400b13c9a808109145d"), looks := false }, kinds := [], alts := [], laidByText := true, laidKinds := [.data, .data, .data, .data, .pinned], laidTests := true, laidLooks := .later }
def FtextLensUptoCardSaid : Prop := Claim7.holds Tryz.pinned (.plain (OpenSpec.upto ftextLensSpec)) ftextLensUptoCard

/-- THE SECOND FORM's CARD OF 'counterpanelaw12.FtextNames'. -/
def ftextNamesUptoCard : Claim7 := { stood := { row := ftextNamesUptoRow, standIns := [], harness := (true, "57448661a946db660636dcbdea39733426d69d4e73cbd400b13c9a808109145d"), looks := false }, kinds := [], alts := [], laidByText := true, laidKinds := [.data, .data, .data, .data, .pinned], laidTests := true, laidLooks := .later }
def FtextNamesUptoCardSaid : Prop := Claim7.holds Tryz.pinned (.plain (OpenSpec.upto ftextNamesSpec)) ftextNamesUptoCard
end Rows
end Go.Proofs.YtpdaloohgfnbhaaGreatDoor
