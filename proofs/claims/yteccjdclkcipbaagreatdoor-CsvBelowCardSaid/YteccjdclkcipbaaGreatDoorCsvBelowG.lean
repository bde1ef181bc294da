/-
  Closed facts on the card of CsvBelow: each is reckoned by the kernel over the program's tables.
-/
import Derived.Test.YteccjdclkcipbaaGreatDoorCards
namespace Go.Proofs.YteccjdclkcipbaaGreatDoor.csvBelow
open Go
theorem goes : false = Rows.csvBelowRow.goesBy Tryz.pinned.checked.prog := by kernel_rfl
theorem wfText : Rows.csvBelowRow.wfByText (OpenSpec.ofChange Rows.csvBelowSpec) = true := by kernel_rfl
theorem named : Tryz.prog.funcNamed Rows.csvBelowRow.func = some 5 := by kernel_rfl
end Go.Proofs.YteccjdclkcipbaaGreatDoor.csvBelow
