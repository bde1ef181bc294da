/-
  Closed facts on the card of FtextParts: each is reckoned by the kernel over the program's tables.
-/
import Derived.Test.YtpdaloohgfnbhaaGreatDoorCards
namespace Go.Proofs.YtpdaloohgfnbhaaGreatDoor.ftextParts
open Go
theorem goes : false = Rows.ftextPartsRow.goesBy Tryz.pinned.checked.prog := by kernel_rfl
theorem wfText : Rows.ftextPartsRow.wfByText (OpenSpec.ofChange Rows.ftextPartsSpec) = true := by kernel_rfl
theorem named : Tryz.prog.funcNamed Rows.ftextPartsRow.func = some 3 := by kernel_rfl
end Go.Proofs.YtpdaloohgfnbhaaGreatDoor.ftextParts
