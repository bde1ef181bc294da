/-
  DERIVED. GIVEN WITH THE SEED: THE CARDS: each row of YtcgdeoldgnjdeaaDoorRows.lean that lists a variable, with what it lists TIED to the program's text (the seventh form; the later family's looks); each row that meets fmt, with fmt's text TOLD by the authors' own Lean function (tested against real Go, not proved from fmt's source: count such statements apart). THE CARD IS WHAT COUNTS. Prove the row's statement (the work); the ties are given (YtcgdeoldgnjdeaaDoorTie.lean); close each card by the builder's one call (the guide's Derived/Test/ToyasCard.lean, 'card_holds'). Laid BY PROGRAM, IN A SANDBOX (cutbox-door.mjs). By AI agents, Wed Nov 11 2026. No macro, syntax, notation, axiom, sorry.
-/
import Derived.Test.YtcgdeoldgnjdeaaDoorRows
import GoSem.ClaimSeven
namespace Go.Proofs.YtcgdeoldgnjdeaaDoor
namespace Rows

/-- THE TIED CARD OF 'counterpanelaw05.LexTells'. -/
def lexTellsCard : Claim7 := { stood := { row := lexTellsRow, standIns := [], harness := (true, "91707341cff1e2d8fb038b321cd93730e627c154c79ca08d247d2ad599f2d349"), looks := false }, kinds := [], alts := [], laidByText := true, laidKinds := [.data], laidTests := true, laidLooks := .later }
def LexTellsCardSaid : Prop := Claim7.holds Tryd.pinned (.plain (OpenSpec.ofChange lexTellsSpec)) lexTellsCard

/-- THE TIED CARD OF 'counterpanelaw05.LexBeside'. -/
def lexBesideCard : Claim7 := { stood := { row := lexBesideRow, standIns := [], harness := (true, "91707341cff1e2d8fb038b321cd93730e627c154c79ca08d247d2ad599f2d349"), looks := false }, kinds := [], alts := [], laidByText := true, laidKinds := [.data], laidTests := true, laidLooks := .later }
def LexBesideCardSaid : Prop := Claim7.holds Tryd.pinned (.plain (OpenSpec.ofChange lexBesideSpec)) lexBesideCard

/-- THE TIED CARD OF 'counterpanelaw05.LexTexts'. -/
def lexTextsCard : Claim7 := { stood := { row := lexTextsRow, standIns := [], harness := (true, "91707341cff1e2d8fb038b321cd93730e627c154c79ca08d247d2ad599f2d349"), looks := false }, kinds := [], alts := [], laidByText := true, laidKinds := [.data], laidTests := true, laidLooks := .later }
def LexTextsCardSaid : Prop := Claim7.holds Tryd.pinned (.plain (OpenSpec.ofChange lexTextsSpec)) lexTextsCard

/-- THE TIED CARD OF 'counterpanelaw02.ValueOrders'. -/
def valueOrdersCard : Claim7 := { stood := { row := valueOrdersRow, standIns := [], harness := (true, "91707341cff1e2d8fb038b321cd93730e627c154c79ca08d247d2ad599f2d349"), looks := false }, kinds := [], alts := [], laidByText := true, laidKinds := [.data], laidTests := true, laidLooks := .later }
def ValueOrdersCardSaid : Prop := Claim7.holds Tryd.pinned (.plain (OpenSpec.ofChange valueOrdersSpec)) valueOrdersCard

/-- THE TIED CARD OF 'counterpanelaw02.ValueReads'. -/
def valueReadsCard : Claim7 := { stood := { row := valueReadsRow, standIns := [], harness := (true, "91707341cff1e2d8fb038b321cd93730e627c154c79ca08d247d2ad599f2d349"), looks := false }, kinds := [], alts := [], laidByText := true, laidKinds := [.data], laidTests := true, laidLooks := .later }
def ValueReadsCardSaid : Prop := Claim7.holds Tryd.pinned (.plain (OpenSpec.ofChange valueReadsSpec)) valueReadsCard

/-- THE TIED CARD OF 'counterpanelaw02.ValueFolds'. -/
def valueFoldsCard : Claim7 := { stood := { row := valueFoldsRow, standIns := [], harness := (true, "91707341cff1e2d8fb038b321cd93730e627c154c79ca08d247d2ad599f2d349"), looks := false }, kinds := [], alts := [], laidByText := true, laidKinds := [.data], laidTests := true, laidLooks := .later }
def ValueFoldsCardSaid : Prop := Claim7.holds Tryd.pinned (.plain (OpenSpec.ofChange valueFoldsSpec)) valueFoldsCard

/-- THE TIED CARD OF 'counterpanelaw02.ValueCompares'. -/
def valueComparesCard : Claim7 := { stood := { row := valueComparesRow, standIns := [], harness := (true, "91707341cff1e2d8fb038b321cd93730e627c154c79ca08d247d2ad599f2d349"), looks := false }, kinds := [], alts := [], laidByText := true, laidKinds := [.data], laidTests := true, laidLooks := .later }
def ValueComparesCardSaid : Prop := Claim7.holds Tryd.pinned (.plain (OpenSpec.ofChange valueComparesSpec)) valueComparesCard

/-- THE TIED CARD OF 'counterpanelaw02.ValueMakes'. -/
def valueMakesCard : Claim7 := { stood := { row := valueMakesRow, standIns := [], harness := (true, "91707341cff1e2d8fb038b321cd93730e627c154c79ca08d247d2ad599f2d349"), looks := false }, kinds := [], alts := [], laidByText := true, laidKinds := [.data], laidTests := true, laidLooks := .later }
def ValueMakesCardSaid : Prop := Claim7.holds Tryd.pinned (.plain (OpenSpec.ofChange valueMakesSpec)) valueMakesCard

/-- THE TIED CARD OF 'counterpanelaw05.LexJoins'. -/
def lexJoinsCard : Claim7 := { stood := { row := lexJoinsRow, standIns := [], harness := (true, "91707341cff1e2d8fb038b321cd93730e627c154c79ca08d247d2ad599f2d349"), looks := false }, kinds := [], alts := [], laidByText := true, laidKinds := [.data, .data, .pinned], laidTests := true, laidLooks := .later }
def LexJoinsCardSaid : Prop := Claim7.holds Tryd.pinned (.plain (OpenSpec.ofChange lexJoinsSpec)) lexJoinsCard

/-- THE TIED CARD OF 'counterpanelaw05.LexAgain'. -/
def lexAgainCard : Claim7 := { stood := { row := lexAgainRow, standIns := [], harness := (true, "91707341cff1e2d8fb038b321cd93730e627c154c79ca08d247d2ad599f2d349"), looks := false }, kinds := [], alts := [], laidByText := true, laidKinds := [.data, .data, .pinned], laidTests := true, laidLooks := .later }
def LexAgainCardSaid : Prop := Claim7.holds Tryd.pinned (.plain (OpenSpec.ofChange lexAgainSpec)) lexAgainCard

/-- THE TIED CARD OF 'counterpanelaw05.LexMarks'. -/
def lexMarksCard : Claim7 := { stood := { row := lexMarksRow, standIns := [], harness := (true, "91707341cff1e2d8fb038b321cd93730e627c154c79ca08d247d2ad599f2d349"), looks := false }, kinds := [], alts := [], laidByText := true, laidKinds := [.data, .data, .data, .data], laidTests := true, laidLooks := .later }
def LexMarksCardSaid : Prop := Claim7.holds Tryd.pinned (.plain (OpenSpec.ofChange lexMarksSpec)) lexMarksCard

/-- THE TIED CARD OF 'counterpanelaw05.LexNumbers'. -/
def lexNumbersCard : Claim7 := { stood := { row := lexNumbersRow, standIns := [], harness := (true, "91707341cff1e2d8fb038b321cd93730e627c154c79ca08d247d2ad599f2d349"), looks := false }, kinds := [], alts := [], laidByText := true, laidKinds := [.data, .data, .data, .data], laidTests := true, laidLooks := .later }
def LexNumbersCardSaid : Prop := Claim7.holds Tryd.pinned (.plain (OpenSpec.ofChange lexNumbersSpec)) lexNumbersCard

/-- THE TIED CARD OF 'counterpanelaw02.ValueShown'. -/
def valueShownCard : Claim7 := { stood := { row := valueShownRow, standIns := [], harness := (true, "91707341cff1e2d8fb038b321cd93730e627c154c79ca08d247d2ad599f2d349"), looks := false }, kinds := [], alts := [], laidByText := true, laidKinds := [.data, .data, .data, .data], laidTests := true, laidLooks := .later }
def ValueShownCardSaid : Prop := Claim7.holds Tryd.pinned (.plain (OpenSpec.ofChange valueShownSpec)) valueShownCard

/-- THE TIED CARD OF 'counterpanelaw02.ValueTurns'. -/
def valueTurnsCard : Claim7 := { stood := { row := valueTurnsRow, standIns := [], harness := (true, "91707341cff1e2d8fb038b321cd93730e627c154c79ca08d247d2ad599f2d349"), looks := false }, kinds := [], alts := [], laidByText := true, laidKinds := [.data, .data, .data, .data], laidTests := true, laidLooks := .later }
def ValueTurnsCardSaid : Prop := Claim7.holds Tryd.pinned (.plain (OpenSpec.ofChange valueTurnsSpec)) valueTurnsCard

/-- THE TIED CARD OF 'counterpanelaw02.ValueNums'. -/
def valueNumsCard : Claim7 := { stood := { row := valueNumsRow, standIns := [], harness := (true, "91707341cff1e2d8fb038b321cd93730e627c154c79ca08d247d2ad599f2d349"), looks := false }, kinds := [], alts := [], laidByText := true, laidKinds := [.data, .data, .data, .data], laidTests := true, laidLooks := .later }
def ValueNumsCardSaid : Prop := Claim7.holds Tryd.pinned (.plain (OpenSpec.ofChange valueNumsSpec)) valueNumsCard

/-- THE SECOND FORM's CARD OF 'counterpanelaw05.LexTells'. -/
def lexTellsUptoCard : Claim7 := { stood := { row := lexTellsUptoRow, standIns := [], harness := (true, "91707341cff1e2d8fb038b321cd93730e627c154c79ca08d247d2ad599f2d349"), looks := false }, kinds := [], alts := [], laidByText := true, laidKinds := [.data], laidTests := true, laidLooks := .later }
def LexTellsUptoCardSaid : Prop := Claim7.holds Tryd.pinned (.plain (OpenSpec.upto lexTellsSpec)) lexTellsUptoCard

/-- THE SECOND FORM's CARD OF 'counterpanelaw05.LexBeside'. -/
def lexBesideUptoCard : Claim7 := { stood := { row := lexBesideUptoRow, standIns := [], harness := (true, "91707341cff1e2d8fb038b321cd93730e627c154c79ca08d247d2ad599f2d349"), looks := false }, kinds := [], alts := [], laidByText := true, laidKinds := [.data], laidTests := true, laidLooks := .later }
def LexBesideUptoCardSaid : Prop := Claim7.holds Tryd.pinned (.plain (OpenSpec.upto lexBesideSpec)) lexBesideUptoCard

/-- THE SECOND FORM's CARD OF 'counterpanelaw05.LexTexts'. -/
def lexTextsUptoCard : Claim7 := { stood := { row := lexTextsUptoRow, standIns := [], harness := (true, "91707341cff1e2d8fb038b321cd93730e627c154c79ca08d247d2ad599f2d349"), looks := false }, kinds := [], alts := [], laidByText := true, laidKinds := [.data], laidTests := true, laidLooks := .later }
def LexTextsUptoCardSaid : Prop := Claim7.holds Tryd.pinned (.plain (OpenSpec.upto lexTextsSpec)) lexTextsUptoCard

/-- THE SECOND FORM's CARD OF 'counterpanelaw02.ValueOrders'. -/
def valueOrdersUptoCard : Claim7 := { stood := { row := valueOrdersUptoRow, standIns := [], harness := (true, "91707341cff1e2d8fb038b321cd93730e627c154c79ca08d247d2ad599f2d349"), looks := false }, kinds := [], alts := [], laidByText := true, laidKinds := [.data], laidTests := true, laidLooks := .later }
def ValueOrdersUptoCardSaid : Prop := Claim7.holds Tryd.pinned (.plain (OpenSpec.upto valueOrdersSpec)) valueOrdersUptoCard

/-- THE SECOND FORM's CARD OF 'counterpanelaw02.ValueReads'. -/
def valueReadsUptoCard : Claim7 := { stood := { row := valueReadsUptoRow, standIns := [], harness := (true, "91707341cff1e2d8fb038b321cd93730e627c154c79ca08d247d2ad599f2d349"), looks := false }, kinds := [], alts := [], laidByText := true, laidKinds := [.data], laidTests := true, laidLooks := .later }
def ValueReadsUptoCardSaid : Prop := Claim7.holds Tryd.pinned (.plain (OpenSpec.upto valueReadsSpec)) valueReadsUptoCard

/-- THE SECOND FORM's CARD OF 'counterpanelaw02.ValueFolds'. -/
def valueFoldsUptoCard : Claim7 := { stood := { row := valueFoldsUptoRow, standIns := [], harness := (true, "91707341cff1e2d8fb038b321cd93730e627c154c79ca08d247d2ad599f2d349"), looks := false }, kinds := [], alts := [], laidByText := true, laidKinds := [.data], laidTests := true, laidLooks := .later }
def ValueFoldsUptoCardSaid : Prop := Claim7.holds Tryd.pinned (.plain (OpenSpec.upto valueFoldsSpec)) valueFoldsUptoCard

/-- THE SECOND FORM's CARD OF 'counterpanelaw02.ValueCompares'. -/
def valueComparesUptoCard : Claim7 := { stood := { row := valueComparesUptoRow, standIns := [], harness := (true, "91707341cff1e2d8fb038b321cd93730e627c154c79ca08d247d2ad599f2d349"), looks := false }, kinds := [], alts := [], laidByText := true, laidKinds := [.data], laidTests := true, laidLooks := .later }
def ValueComparesUptoCardSaid : Prop := Claim7.holds Tryd.pinned (.plain (OpenSpec.upto valueComparesSpec)) valueComparesUptoCard

/-- THE SECOND FORM's CARD OF 'counterpanelaw02.ValueMakes'. -/
def valueMakesUptoCard : Claim7 := { stood := { row := valueMakesUptoRow, standIns := [], harness := (true, "91707341cff1e2d8fb038b321cd93730e627c154c79ca08d247d2ad599f2d349"), looks := false }, kinds := [], alts := [], laidByText := true, laidKinds := [.data], laidTests := true, laidLooks := .later }
def ValueMakesUptoCardSaid : Prop := Claim7.holds Tryd.pinned (.plain (OpenSpec.upto valueMakesSpec)) valueMakesUptoCard

/-- THE SECOND FORM's CARD OF 'counterpanelaw05.LexJoins'. -/
def lexJoinsUptoCard : Claim7 := { stood := { row := lexJoinsUptoRow, standIns := [], harness := (true, "91707341cff1e2d8fb038b321cd93730e627c154c79ca08d247d2ad599f2d349"), looks := false }, kinds := [], alts := [], laidByText := true, laidKinds := [.data, .data, .pinned], laidTests := true, laidLooks := .later }
def LexJoinsUptoCardSaid : Prop := Claim7.holds Tryd.pinned (.plain (OpenSpec.upto lexJoinsSpec)) lexJoinsUptoCard

/-- THE SECOND FORM's CARD OF 'counterpanelaw05.LexAgain'. -/
def lexAgainUptoCard : Claim7 := { stood := { row := lexAgainUptoRow, standIns := [], harness := (true, "91707341cff1e2d8fb038b321cd93730e627c154c79ca08d247d2ad599f2d349"), looks := false }, kinds := [], alts := [], laidByText := true, laidKinds := [.data, .data, .pinned], laidTests := true, laidLooks := .later }
def LexAgainUptoCardSaid : Prop := Claim7.holds Tryd.pinned (.plain (OpenSpec.upto lexAgainSpec)) lexAgainUptoCard

/-- THE SECOND FORM's CARD OF 'counterpanelaw05.LexMarks'. -/
def lexMarksUptoCard : Claim7 := { stood := { row := lexMarksUptoRow, standIns := [], harness := (true, "91707341cff1e2d8fb038b321cd93730e627c154c79ca08d247d2ad599f2d349"), looks := false }, kinds := [], alts := [], laidByText := true, laidKinds := [.data, .data, .data, .data], laidTests := true, laidLooks := .later }
def LexMarksUptoCardSaid : Prop := Claim7.holds Tryd.pinned (.plain (OpenSpec.upto lexMarksSpec)) lexMarksUptoCard

/-- THE SECOND FORM's CARD OF 'counterpanelaw05.LexNumbers'. -/
def lexNumbersUptoCard : Claim7 := { stood := { row := lexNumbersUptoRow, standIns := [], harness := (true, "91707341cff1e2d8fb038b321cd93730e627c154c79ca08d247d2ad599f2d349"), looks := false }, kinds := [], alts := [], laidByText := true, laidKinds := [.data, .data, .data, .data], laidTests := true, laidLooks := .later }
def LexNumbersUptoCardSaid : Prop := Claim7.holds Tryd.pinned (.plain (OpenSpec.upto lexNumbersSpec)) lexNumbersUptoCard

/-- THE SECOND FORM's CARD OF 'counterpanelaw02.ValueShown'. -/
def valueShownUptoCard : Claim7 := { stood := { row := valueShownUptoRow, standIns := [], harness := (true, "91707341cff1e2d8fb038b321cd93730e627c154c79ca08d247d2ad599f2d349"), looks := false }, kinds := [], alts := [], laidByText := true, laidKinds := [.data, .data, .data, .data], laidTests := true, laidLooks := .later }
def ValueShownUptoCardSaid : Prop := Claim7.holds Tryd.pinned (.plain (OpenSpec.upto valueShownSpec)) valueShownUptoCard

/-- THE SECOND FORM's CARD OF 'counterpanelaw02.ValueTurns'. -/
def valueTurnsUptoCard : Claim7 := { stood := { row := valueTurnsUptoRow, standIns := [], harness := (true, "91707341cff1e2d8fb038b321cd93730e627c154c79ca08d247d2ad599f2d349"), looks := false }, kinds := [], alts := [], laidByText := true, laidKinds := [.data, .data, .data, .data], laidTests := true, laidLooks := .later }
def ValueTurnsUptoCardSaid : Prop := Claim7.holds Tryd.pinned (.plain (OpenSpec.upto valueTurnsSpec)) valueTurnsUptoCard

/-- THE SECOND FORM's CARD OF 'counterpanelaw02.ValueNums'. -/
def valueNumsUptoCard : Claim7 := { stood := { row := valueNumsUptoRow, standIns := [], harness := (true, "91707341cff1e2d8fb038b321cd93730e627c154c79ca08d247d2ad599f2d349"), looks := false }, kinds := [], alts := [], laidByText := true, laidKinds := [.data, .data, .data, .data], laidTests := true, laidLooks := .later }
def ValueNumsUptoCardSaid : Prop := Claim7.holds Tryd.pinned (.plain (OpenSpec.upto valueNumsSpec)) valueNumsUptoCard
end Rows
end Go.Proofs.YtcgdeoldgnjdeaaDoor
