/-
  Closed facts on the card of FtextSplits: each is reckoned by the kernel over the program's tables.
-/
import Derived.Test.YtpdaloohgfnbhaaGreatDoorCards
namespace Go.Proofs.YtpdaloohgfnbhaaGreatDoor.ftextSplits
open Go
theorem goes : false = Rows.ftextSplitsRow.goesBy Tryz.pinned.checked.prog := by kernel_rfl
theorem wfText : Rows.ftextSplitsRow.wfByText (OpenSpec.ofChange Rows.ftextSplitsSpec) = true := by kernel_rfl
theorem named : Tryz.prog.funcNamed Rows.ftextSplitsRow.func = some 4 := by kernel_rfl
end Go.Proofs.YtpdaloohgfnbhaaGreatDoor.ftextSplits
