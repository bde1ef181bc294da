/-
  Closed facts on the card of CsvReads: each is reckoned by the kernel over the program's tables.
-/
import Derived.Test.YteccjdclkcipbaaGreatDoorCards
namespace Go.Proofs.YteccjdclkcipbaaGreatDoor.csvReads
open Go
theorem goes : false = Rows.csvReadsRow.goesBy Tryz.pinned.checked.prog := by kernel_rfl
theorem wfText : Rows.csvReadsRow.wfByText (OpenSpec.ofChange Rows.csvReadsSpec) = true := by kernel_rfl
theorem named : Tryz.prog.funcNamed Rows.csvReadsRow.func = some 4 := by kernel_rfl
end Go.Proofs.YteccjdclkcipbaaGreatDoor.csvReads
