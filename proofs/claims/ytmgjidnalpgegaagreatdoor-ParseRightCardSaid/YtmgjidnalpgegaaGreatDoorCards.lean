/-
  DERIVED. GIVEN WITH THE SEED: THE CARDS: each row of YtmgjidnalpgegaaGreatDoorRows.lean that lists a variable, with what it lists TIED to the program's text (the seventh form; the later family's looks); each row that meets fmt, with fmt's text TOLD by the authors' own Lean function (tested against real Go, not proved from fmt's source: count such statements apart). THE CARD IS WHAT COUNTS. Prove the row's statement (the work); the ties are given (YtmgjidnalpgegaaGreatDoorTie.lean); close each card by the builder's one call (the guide's Derived/Test/ToyasCard.lean, 'card_holds'). Laid BY PROGRAM, IN A SANDBOX (cutbox-door.mjs). By AI agents, Wed Nov 11 2026. No macro, syntax, notation, axiom, sorry.
-/
import Derived.Test.YtmgjidnalpgegaaGreatDoorRows
import GoSem.ClaimSeven
namespace Go.Proofs.YtmgjidnalpgegaaGreatDoor
namespace Rows

/-- THE TIED CARD OF 'counterpanelaw07.ParseRight'. -/
def parseRightCard : Claim7 := { stood := { row := parseRightRow, standIns := [], harness := (true, "116b7ee12c5871ee032cd27ec700550dd3974a47757112e55766cc4635a6925d"), looks := false }, kinds := [], alts := [], laidByText := true, laidKinds := [.data], laidTests := true, laidLooks := .later }
def ParseRightCardSaid : Prop := Claim7.holds Tryz.pinned (.plain (OpenSpec.ofChange parseRightSpec)) parseRightCard

/-- THE TIED CARD OF 'counterpanelaw07.ParseBrackets'. -/
def parseBracketsCard : Claim7 := { stood := { row := parseBracketsRow, standIns := [], harness := (true, "116b7ee12c5871ee032cd27ec700550dd3974a47757112e55766cc4635a6925d"), looks := false }, kinds := [], alts := [], laidByText := true, laidKinds := [.data], laidTests := true, laidLooks := .later }
def ParseBracketsCardSaid : Prop := Claim7.holds Tryz.pinned (.plain (OpenSpec.ofChange parseBracketsSpec)) parseBracketsCard

/-- THE TIED CARD OF 'counterpanelaw07.ParseFolds'. -/
def parseFoldsCard : Claim7 := { stood := { row := parseFoldsRow, standIns := [], harness := (true, "116b7ee12c5871ee032cd27ec700550dd3974a47757112e55766cc4635a6925d"), looks := false }, kinds := [], alts := [], laidByText := true, laidKinds := [.data], laidTests := true, laidLooks := .later }
def ParseFoldsCardSaid : Prop := Claim7.holds Tryz.pinned (.plain (OpenSpec.ofChange parseFoldsSpec)) parseFoldsCard

/-- THE TIED CARD OF 'counterpanelaw07.ParseSigns'. -/
def parseSignsCard : Claim7 := { stood := { row := parseSignsRow, standIns := [], harness := (true, "116b7ee12c5871ee032cd27ec700550dd3974a47757112e55766cc4635a6925d"), looks := false }, kinds := [], alts := [], laidByText := true, laidKinds := [.data], laidTests := true, laidLooks := .later }
def ParseSignsCardSaid : Prop := Claim7.holds Tryz.pinned (.plain (OpenSpec.ofChange parseSignsSpec)) parseSignsCard

/-- THE TIED CARD OF 'counterpanelaw07.ParseCalls'. -/
def parseCallsCard : Claim7 := { stood := { row := parseCallsRow, standIns := [], harness := (true, "116b7ee12c5871ee032cd27ec700550dd3974a47757112e55766cc4635a6925d"), looks := false }, kinds := [], alts := [], laidByText := true, laidKinds := [.data], laidTests := true, laidLooks := .later }
def ParseCallsCardSaid : Prop := Claim7.holds Tryz.pinned (.plain (OpenSpec.ofChange parseCallsSpec)) parseCallsCard

/-- THE SECOND FORM's CARD OF 'counterpanelaw07.ParseRight'. -/
def parseRightUptoCard : Claim7 := { stood := { row := parseRightUptoRow, standIns := [], harness := (true, "116b7ee12c5871ee032cd27ec700550dd3974a47757112e55766cc4635a6925d"), looks := false }, kinds := [], alts := [], laidByText := true, laidKinds := [.data], laidTests := true, laidLooks := .later }
def ParseRightUptoCardSaid : Prop := Claim7.holds Tryz.pinned (.plain (OpenSpec.upto parseRightSpec)) parseRightUptoCard

/-- THE SECOND FORM's CARD OF 'counterpanelaw07.ParseBrackets'. -/
def parseBracketsUptoCard : Claim7 := { stood := { row := parseBracketsUptoRow, standIns := [], harness := (true, "116b7ee12c5871ee032cd27ec700550dd3974a47757112e55766cc4635a6925d"), looks := false }, kinds := [], alts := [], laidByText := true, laidKinds := [.data], laidTests := true, laidLooks := .later }
def ParseBracketsUptoCardSaid : Prop := Claim7.holds Tryz.pinned (.plain (OpenSpec.upto parseBracketsSpec)) parseBracketsUptoCard

/-- THE SECOND FORM's CARD OF 'counterpanelaw07.ParseFolds'. -/
def parseFoldsUptoCard : Claim7 := { stood := { row := parseFoldsUptoRow, standIns := [], harness := (true, "116b7ee12c5871ee032cd27ec700550dd3974a47757112e55766cc4635a6925d"), looks := false }, kinds := [], alts := [], laidByText := true, laidKinds := [.data], laidTests := true, laidLooks := .later }
def ParseFoldsUptoCardSaid : Prop := Claim7.holds Tryz.pinned (.plain (OpenSpec.upto parseFoldsSpec)) parseFoldsUptoCard

/-- THE SECOND FORM's CARD OF 'counterpanelaw07.ParseSigns'. -/
def parseSignsUptoCard : Claim7 := { stood := { row := parseSignsUptoRow, standIns := [], harness := (true, "116b7ee12c5871ee032cd27ec700550dd3974a47757112e55766cc4635a6925d"), looks := false }, kinds := [], alts := [], laidByText := true, laidKinds := [.data], laidTests := true, laidLooks := .later }
def ParseSignsUptoCardSaid : Prop := Claim7.holds Tryz.pinned (.plain (OpenSpec.upto parseSignsSpec)) parseSignsUptoCard

/-- THE SECOND FORM's CARD OF 'counterpanelaw07.ParseCalls'. -/
def parseCallsUptoCard : Claim7 := { stood := { row := parseCallsUptoRow, standIns := [], harness := (true, "116b7ee12c5871ee032cd27ec700550dd3974a47757112e55766cc4635a6925d"), looks := false }, kinds := [], alts := [], laidByText := true, laidKinds := [.data], laidTests := true, laidLooks := .later }
def ParseCallsUptoCardSaid : Prop := Claim7.holds Tryz.pinned (.plain (OpenSpec.upto parseCallsSpec)) parseCallsUptoCard
end Rows
end Go.Proofs.YtmgjidnalpgegaaGreatDoor
