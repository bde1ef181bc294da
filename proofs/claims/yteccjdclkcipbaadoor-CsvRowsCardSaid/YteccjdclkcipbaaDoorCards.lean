/-
  DERIVED. GIVEN WITH THE SEED: THE CARDS: each row of YteccjdclkcipbaaDoorRows.lean that lists a variable, with what it lists TIED to the program's text (the seventh form; the later family's looks); each row that meets fmt, with fmt's text TOLD by the authors' own Lean function (tested against real Go, not proved from fmt's source: count such statements apart). THE CARD IS WHAT COUNTS. Prove the row's statement (the work); the ties are given (YteccjdclkcipbaaDoorTie.lean); close each card by the builder's one call (the guide's Derived/Test/ToyasCard.lean, 'card_holds'). Laid BY PROGRAM, IN A SANDBOX (cutbox-door.mjs). By AI agents, Wed Nov 11 2026. No macro, syntax, notation, axiom, sorry.
-/
import Derived.Test.YteccjdclkcipbaaDoorRows
import GoSem.ClaimSeven
namespace Go.Proofs.YteccjdclkcipbaaDoor
namespace Rows

/-- THE TIED CARD OF 'counterpanelaw02.ValueNums'. -/
def valueNumsCard : Claim7 := { stood := { row := valueNumsRow, standIns := [], harness := (true, "1e30a2c6ee637aa7064471fc34cc7c33e8e4afb908979515da26655f38794e7a"), looks := false }, kinds := [], alts := [], laidByText := true, laidKinds := [.data, .data, .data, .data], laidTests := true, laidLooks := .later }
def ValueNumsCardSaid : Prop := Claim7.holds Tryd.pinned (.plain (OpenSpec.ofChange valueNumsSpec)) valueNumsCard

/-- THE TIED CARD OF 'counterpanelaw31.MaskReads'. -/
def maskReadsCard : Claim7 := { stood := { row := maskReadsRow, standIns := [], harness := (true, "1e30a2c6ee637aa7064471fc34cc7c33e8e4afb908979515da26655f38794e7a"), looks := false }, kinds := [], alts := [], laidByText := true, laidKinds := [.data, .data, .data, .data], laidTests := true, laidLooks := .later }
def MaskReadsCardSaid : Prop := Claim7.holds Tryd.pinned (.plain (OpenSpec.ofChange maskReadsSpec)) maskReadsCard

/-- THE TIED CARD OF 'counterpanelaw31.MaskSigns'. -/
def maskSignsCard : Claim7 := { stood := { row := maskSignsRow, standIns := [], harness := (true, "1e30a2c6ee637aa7064471fc34cc7c33e8e4afb908979515da26655f38794e7a"), looks := false }, kinds := [], alts := [], laidByText := true, laidKinds := [.data, .data, .data, .data], laidTests := true, laidLooks := .later }
def MaskSignsCardSaid : Prop := Claim7.holds Tryd.pinned (.plain (OpenSpec.ofChange maskSignsSpec)) maskSignsCard

/-- THE TIED CARD OF 'counterpanelaw31.MaskGroups'. -/
def maskGroupsCard : Claim7 := { stood := { row := maskGroupsRow, standIns := [], harness := (true, "1e30a2c6ee637aa7064471fc34cc7c33e8e4afb908979515da26655f38794e7a"), looks := false }, kinds := [], alts := [], laidByText := true, laidKinds := [.data, .data, .data, .data], laidTests := true, laidLooks := .later }
def MaskGroupsCardSaid : Prop := Claim7.holds Tryd.pinned (.plain (OpenSpec.ofChange maskGroupsSpec)) maskGroupsCard

/-- THE TIED CARD OF 'counterpanelaw31.MaskParses'. -/
def maskParsesCard : Claim7 := { stood := { row := maskParsesRow, standIns := [], harness := (true, "1e30a2c6ee637aa7064471fc34cc7c33e8e4afb908979515da26655f38794e7a"), looks := false }, kinds := [], alts := [], laidByText := true, laidKinds := [.data, .data, .data, .data], laidTests := true, laidLooks := .later }
def MaskParsesCardSaid : Prop := Claim7.holds Tryd.pinned (.plain (OpenSpec.ofChange maskParsesSpec)) maskParsesCard

/-- THE TIED CARD OF 'counterpanelaw31.MaskWidth'. -/
def maskWidthCard : Claim7 := { stood := { row := maskWidthRow, standIns := [], harness := (true, "1e30a2c6ee637aa7064471fc34cc7c33e8e4afb908979515da26655f38794e7a"), looks := false }, kinds := [], alts := [], laidByText := true, laidKinds := [.data, .data, .data, .data], laidTests := true, laidLooks := .later }
def MaskWidthCardSaid : Prop := Claim7.holds Tryd.pinned (.plain (OpenSpec.ofChange maskWidthSpec)) maskWidthCard

/-- THE TIED CARD OF 'counterpanelaw32.CsvRows'. -/
def csvRowsCard : Claim7 := { stood := { row := csvRowsRow, standIns := [], harness := (true, "1e30a2c6ee637aa7064471fc34cc7c33e8e4afb908979515da26655f38794e7a"), looks := false }, kinds := [], alts := [], laidByText := true, laidKinds := [.data, .data, .data, .data, .data, .pinned], laidTests := true, laidLooks := .later }
def CsvRowsCardSaid : Prop := Claim7.holds Tryd.pinned (.plain (OpenSpec.ofChange csvRowsSpec)) csvRowsCard

/-- THE TIED CARD OF 'counterpanelaw32.CsvFull'. -/
def csvFullCard : Claim7 := { stood := { row := csvFullRow, standIns := [], harness := (true, "1e30a2c6ee637aa7064471fc34cc7c33e8e4afb908979515da26655f38794e7a"), looks := false }, kinds := [], alts := [], laidByText := true, laidKinds := [.data, .data, .data, .data, .data, .pinned], laidTests := true, laidLooks := .later }
def CsvFullCardSaid : Prop := Claim7.holds Tryd.pinned (.plain (OpenSpec.ofChange csvFullSpec)) csvFullCard

/-- THE SECOND FORM's CARD OF 'counterpanelaw02.ValueNums'. -/
def valueNumsUptoCard : Claim7 := { stood := { row := valueNumsUptoRow, standIns := [], harness := (true, "1e30a2c6ee637aa7064471fc34cc7c33e8e4afb908979515da26655f38794e7a"), looks := false }, kinds := [], alts := [], laidByText := true, laidKinds := [.data, .data, .data, .data], laidTests := true, laidLooks := .later }
def ValueNumsUptoCardSaid : Prop := Claim7.holds Tryd.pinned (.plain (OpenSpec.upto valueNumsSpec)) valueNumsUptoCard

/-- THE SECOND FORM's CARD OF 'counterpanelaw31.MaskReads'. -/
def maskReadsUptoCard : Claim7 := { stood := { row := maskReadsUptoRow, standIns := [], harness := (true, "1e30a2c6ee637aa7064471fc34cc7c33e8e4afb908979515da26655f38794e7a"), looks := false }, kinds := [], alts := [], laidByText := true, laidKinds := [.data, .data, .data, .data], laidTests := true, laidLooks := .later }
def MaskReadsUptoCardSaid : Prop := Claim7.holds Tryd.pinned (.plain (OpenSpec.upto maskReadsSpec)) maskReadsUptoCard

/-- THE SECOND FORM's CARD OF 'counterpanelaw31.MaskSigns'. -/
def maskSignsUptoCard : Claim7 := { stood := { row := maskSignsUptoRow, standIns := [], harness := (true, "1e30a2c6ee637aa7064471fc34cc7c33e8e4afb908979515da26655f38794e7a"), looks := false }, kinds := [], alts := [], laidByText := true, laidKinds := [.data, .data, .data, .data], laidTests := true, laidLooks := .later }
def MaskSignsUptoCardSaid : Prop := Claim7.holds Tryd.pinned (.plain (OpenSpec.upto maskSignsSpec)) maskSignsUptoCard

/-- THE SECOND FORM's CARD OF 'counterpanelaw31.MaskGroups'. -/
def maskGroupsUptoCard : Claim7 := { stood := { row := maskGroupsUptoRow, standIns := [], harness := (true, "1e30a2c6ee637aa7064471fc34cc7c33e8e4afb908979515da26655f38794e7a"), looks := false }, kinds := [], alts := [], laidByText := true, laidKinds := [.data, .data, .data, .data], laidTests := true, laidLooks := .later }
def MaskGroupsUptoCardSaid : Prop := Claim7.holds Tryd.pinned (.plain (OpenSpec.upto maskGroupsSpec)) maskGroupsUptoCard

/-- THE SECOND FORM's CARD OF 'counterpanelaw31.MaskParses'. -/
def maskParsesUptoCard : Claim7 := { stood := { row := maskParsesUptoRow, standIns := [], harness := (true, "1e30a2c6ee637aa7064471fc34cc7c33e8e4afb908979515da26655f38794e7a"), looks := false }, kinds := [], alts := [], laidByText := true, laidKinds := [.data, .data, .data, .data], laidTests := true, laidLooks := .later }
def MaskParsesUptoCardSaid : Prop := Claim7.holds Tryd.pinned (.plain (OpenSpec.upto maskParsesSpec)) maskParsesUptoCard

/-- THE SECOND FORM's CARD OF 'counterpanelaw31.MaskWidth'. -/
def maskWidthUptoCard : Claim7 := { stood := { row := maskWidthUptoRow, standIns := [], harness := (true, "1e30a2c6ee637aa7064471fc34cc7c33e8e4afb908979515da26655f38794e7a"), looks := false }, kinds := [], alts := [], laidByText := true, laidKinds := [.data, .data, .data, .data], laidTests := true, laidLooks := .later }
def MaskWidthUptoCardSaid : Prop := Claim7.holds Tryd.pinned (.plain (OpenSpec.upto maskWidthSpec)) maskWidthUptoCard

/-- THE SECOND FORM's CARD OF 'counterpanelaw32.CsvRows'. -/
def csvRowsUptoCard : Claim7 := { stood := { row := csvRowsUptoRow, standIns := [], harness := (true, "1e30a2c6ee637aa7064471fc34cc7c33e8e4afb908979515da26655f38794e7a"), looks := false }, kinds := [], alts := [], laidByText := true, laidKinds := [.data, .data, .data, .data, .data, .pinned], laidTests := true, laidLooks := .later }
def CsvRowsUptoCardSaid : Prop := Claim7.holds Tryd.pinned (.plain (OpenSpec.upto csvRowsSpec)) csvRowsUptoCard

/-- THE SECOND FORM's CARD OF 'counterpanelaw32.CsvFull'. -/
def csvFullUptoCard : Claim7 := { stood := { row := csvFullUptoRow, standIns := [], harness := (true, "1e30a2c6ee637aa7064471fc34cc7c33e8e4afb908979515da26655f38794e7a"), looks := false }, kinds := [], alts := [], laidByText := true, laidKinds := [.data, .data, .data, .data, .data, .pinned], laidTests := true, laidLooks := .later }
def CsvFullUptoCardSaid : Prop := Claim7.holds Tryd.pinned (.plain (OpenSpec.upto csvFullSpec)) csvFullUptoCard
end Rows
end Go.Proofs.YteccjdclkcipbaaDoor
