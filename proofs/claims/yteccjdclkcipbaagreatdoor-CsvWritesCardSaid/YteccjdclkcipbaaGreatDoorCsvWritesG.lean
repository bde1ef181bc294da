/-
  Closed facts on the card of CsvWrites: each is reckoned by the kernel over the program's tables.
-/
import Derived.Test.YteccjdclkcipbaaGreatDoorCards
namespace Go.Proofs.YteccjdclkcipbaaGreatDoor.csvWrites
open Go
theorem goes : false = Rows.csvWritesRow.goesBy Tryz.pinned.checked.prog := by kernel_rfl
theorem wfText : Rows.csvWritesRow.wfByText (OpenSpec.ofChange Rows.csvWritesSpec) = true := by kernel_rfl
theorem named : Tryz.prog.funcNamed Rows.csvWritesRow.func = some 3 := by kernel_rfl
end Go.Proofs.YteccjdclkcipbaaGreatDoor.csvWrites
