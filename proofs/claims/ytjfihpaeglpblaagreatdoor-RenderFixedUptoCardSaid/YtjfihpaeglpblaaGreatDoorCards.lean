/-
  DERIVED. GIVEN WITH THE SEED: THE CARDS: each row of YtjfihpaeglpblaaGreatDoorRows.lean that lists a variable, with what it lists TIED to the program's text (the seventh form; the later family's looks); each row that meets fmt, with fmt's text TOLD by the authors' own Lean function (tested against real Go, not proved from fmt's source: count such statements apart). THE CARD IS WHAT COUNTS. Prove the row's statement (the work); the ties are given (YtjfihpaeglpblaaGreatDoorTie.lean); close each card by the builder's one call (the guide's Derived/Test/ToyasCard.lean, 'card_holds'). Laid BY PROGRAM, IN A SANDBOX (cutbox-door.mjs). By AI agents, Wed Nov 11 2026. No macro, syntax, notation, axiom, sorry.
-/
import Derived.Test.YtjfihpaeglpblaaGreatDoorRows
import GoSem.ClaimSeven
namespace Go.Proofs.YtjfihpaeglpblaaGreatDoor
namespace Rows

/-- THE TIED CARD OF 'counterpanelaw08.RenderSays'. -/
def renderSaysCard : Claim7 := { stood := { row := renderSaysRow, standIns := [], harness := (true, "c55abc2db4d8b403f6b2e092904cf7237dc9528b30c2fcc3aa2714e000e54558"), looks := false }, kinds := [], alts := [], laidByText := true, laidKinds := [.data, .data, .data, .data, .data, .pinned], laidTests := true, laidLooks := .later }
def RenderSaysCardSaid : Prop := Claim7.holds Tryz.pinned (.plain (OpenSpec.ofChange renderSaysSpec)) renderSaysCard

/-- THE TIED CARD OF 'counterpanelaw08.RenderTight'. -/
def renderTightCard : Claim7 := { stood := { row := renderTightRow, standIns := [], harness := (true, "c55abc2db4d8b403f6b2e092904cf7237dc9528b30c2fcc3aa2714e000e54558"), looks := false }, kinds := [], alts := [], laidByText := true, laidKinds := [.data, .data, .data, .data, .data, .pinned], laidTests := true, laidLooks := .later }
def RenderTightCardSaid : Prop := Claim7.holds Tryz.pinned (.plain (OpenSpec.ofChange renderTightSpec)) renderTightCard

/-- THE TIED CARD OF 'counterpanelaw08.RenderRelative'. -/
def renderRelativeCard : Claim7 := { stood := { row := renderRelativeRow, standIns := [], harness := (true, "c55abc2db4d8b403f6b2e092904cf7237dc9528b30c2fcc3aa2714e000e54558"), looks := false }, kinds := [], alts := [], laidByText := true, laidKinds := [.data, .data, .data, .data, .data, .pinned], laidTests := true, laidLooks := .later }
def RenderRelativeCardSaid : Prop := Claim7.holds Tryz.pinned (.plain (OpenSpec.ofChange renderRelativeSpec)) renderRelativeCard

/-- THE TIED CARD OF 'counterpanelaw08.RenderFixed'. -/
def renderFixedCard : Claim7 := { stood := { row := renderFixedRow, standIns := [], harness := (true, "c55abc2db4d8b403f6b2e092904cf7237dc9528b30c2fcc3aa2714e000e54558"), looks := false }, kinds := [], alts := [], laidByText := true, laidKinds := [.data, .data, .data, .data, .data, .pinned], laidTests := true, laidLooks := .later }
def RenderFixedCardSaid : Prop := Claim7.holds Tryz.pinned (.plain (OpenSpec.ofChange renderFixedSpec)) renderFixedCard

/-- THE TIED CARD OF 'counterpanelaw08.RenderBack'. -/
def renderBackCard : Claim7 := { stood := { row := renderBackRow, standIns := [], harness := (true, "c55abc2db4d8b403f6b2e092904cf7237dc9528b30c2fcc3aa2714e000e54558"), looks := false }, kinds := [], alts := [], laidByText := true, laidKinds := [.data, .data, .data, .data, .data, .pinned], laidTests := true, laidLooks := .later }
def RenderBackCardSaid : Prop := Claim7.holds Tryz.pinned (.plain (OpenSpec.ofChange renderBackSpec)) renderBackCard

/-- THE TIED CARD OF 'counterpanelaw08.RenderLeast'. -/
def renderLeastCard : Claim7 := { stood := { row := renderLeastRow, standIns := [], harness := (true, "c55abc2db4d8b403f6b2e092904cf7237dc9528b30c2fcc3aa2714e000e54558"), looks := false }, kinds := [], alts := [], laidByText := true, laidKinds := [.data, .data, .data, .data, .data, .pinned], laidTests := true, laidLooks := .later }
def RenderLeastCardSaid : Prop := Claim7.holds Tryz.pinned (.plain (OpenSpec.ofChange renderLeastSpec)) renderLeastCard

/-- THE TIED CARD OF 'counterpanelaw08.RenderEntries'. -/
def renderEntriesCard : Claim7 := { stood := { row := renderEntriesRow, standIns := [], harness := (true, "c55abc2db4d8b403f6b2e092904cf7237dc9528b30c2fcc3aa2714e000e54558"), looks := false }, kinds := [], alts := [], laidByText := true, laidKinds := [.data, .data, .data, .data, .data, .pinned], laidTests := true, laidLooks := .later }
def RenderEntriesCardSaid : Prop := Claim7.holds Tryz.pinned (.plain (OpenSpec.ofChange renderEntriesSpec)) renderEntriesCard

/-- THE SECOND FORM's CARD OF 'counterpanelaw08.RenderSays'. -/
def renderSaysUptoCard : Claim7 := { stood := { row := renderSaysUptoRow, standIns := [], harness := (true, "c55abc2db4d8b403f6b2e092904cf7237dc9528b30c2fcc3aa2714e000e54558"), looks := false }, kinds := [], alts := [], laidByText := true, laidKinds := [.data, .data, .data, .data, .data, .pinned], laidTests := true, laidLooks := .later }
def RenderSaysUptoCardSaid : Prop := Claim7.holds Tryz.pinned (.plain (OpenSpec.upto renderSaysSpec)) renderSaysUptoCard

/-- THE SECOND FORM's CARD OF 'counterpanelaw08.RenderTight'. -/
def renderTightUptoCard : Claim7 := { stood := { row := renderTightUptoRow, standIns := [], harness := (true, "c55abc2db4d8b403f6b2e092904cf7237dc9528b30c2fcc3aa2714e000e54558"), looks := false }, kinds := [], alts := [], laidByText := true, laidKinds := [.data, .data, .data, .data, .data, .pinned], laidTests := true, laidLooks := .later }
def RenderTightUptoCardSaid : Prop := Claim7.holds Tryz.pinned (.plain (OpenSpec.upto renderTightSpec)) renderTightUptoCard

/-- THE SECOND FORM's CARD OF 'counterpanelaw08.RenderRelative'. -/
def renderRelativeUptoCard : Claim7 := { stood := { row := renderRelativeUptoRow, standIns := [], harness := (true, "c55abc2db4d8b403f6b2e092904cf7237dc9528b30c2fcc3aa2714e000e54558"), looks := false }, kinds := [], alts := [], laidByText := true, laidKinds := [.data, .data, .data, .data, .data, .pinned], laidTests := true, laidLooks := .later }
def RenderRelativeUptoCardSaid : Prop := Claim7.holds Tryz.pinned (.plain (OpenSpec.upto renderRelativeSpec)) renderRelativeUptoCard

/-- THE SECOND FORM's CARD OF 'counterpanelaw08.RenderFixed'. -/
def renderFixedUptoCard : Claim7 := { stood := { row := renderFixedUptoRow, standIns := [], harness := (true, "c55abc2db4d8b403f6b2e092904cf7237dc9528b30c2fcc3aa2714e000e54558"), looks := false }, kinds := [], alts := [], laidByText := true, laidKinds := [.data, .data, .data, .data, .data, .pinned], laidTests := true, laidLooks := .later }
def RenderFixedUptoCardSaid : Prop := Claim7.holds Tryz.pinned (.plain (OpenSpec.upto renderFixedSpec)) renderFixedUptoCard

/-- THE SECOND FORM's CARD OF 'counterpanelaw08.RenderBack'. -/
def renderBackUptoCard : Claim7 := { stood := { row := renderBackUptoRow, standIns := [], harness := (true, "c55abc2db4d8b403f6b2e092904cf7237dc9528b30c2fcc3aa2714e000e54558"), looks := false }, kinds := [], alts := [], laidByText := true, laidKinds := [.data, .data, .data, .data, .data, .pinned], laidTests := true, laidLooks := .later }
def RenderBackUptoCardSaid : Prop := Claim7.holds Tryz.pinned (.plain (OpenSpec.upto renderBackSpec)) renderBackUptoCard

/-- THE SECOND FORM's CARD OF 'counterpanelaw08.RenderLeast'. -/
def renderLeastUptoCard : Claim7 := { stood := { row := renderLeastUptoRow, standIns := [], harness := (true, "c55abc2db4d8b403f6b2e092904cf7237dc9528b30c2fcc3aa2714e000e54558"), looks := false }, kinds := [], alts := [], laidByText := true, laidKinds := [.data, .data, .data, .data, .data, .pinned], laidTests := true, laidLooks := .later }
def RenderLeastUptoCardSaid : Prop := Claim7.holds Tryz.pinned (.plain (OpenSpec.upto renderLeastSpec)) renderLeastUptoCard

/-- THE SECOND FORM's CARD OF 'counterpanelaw08.RenderEntries'. -/
def renderEntriesUptoCard : Claim7 := { stood := { row := renderEntriesUptoRow, standIns := [], harness := (true, "c55abc2db4d8b403f6b2e092904cf7237dc9528b30c2fcc3aa2714e000e54558"), looks := false }, kinds := [], alts := [], laidByText := true, laidKinds := [.data, .data, .data, .data, .data, .pinned], laidTests := true, laidLooks := .later }
def RenderEntriesUptoCardSaid : Prop := Claim7.holds Tryz.pinned (.plain (OpenSpec.upto renderEntriesSpec)) renderEntriesUptoCard
end Rows
end Go.Proofs.YtjfihpaeglpblaaGreatDoor
