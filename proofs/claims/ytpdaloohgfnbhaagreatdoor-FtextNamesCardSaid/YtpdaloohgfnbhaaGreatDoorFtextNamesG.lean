/-
  Closed facts on the card of FtextNames: each is reckoned by the kernel over the program's tables.
-/
import Derived.Test.YtpdaloohgfnbhaaGreatDoorCards
namespace Go.Proofs.YtpdaloohgfnbhaaGreatDoor.ftextNames
open Go
theorem goes : false = Rows.ftextNamesRow.goesBy Tryz.pinned.checked.prog := by kernel_rfl
theorem wfText : Rows.ftextNamesRow.wfByText (OpenSpec.ofChange Rows.ftextNamesSpec) = true := by kernel_rfl
theorem named : Tryz.prog.funcNamed Rows.ftextNamesRow.func = some 7 := by kernel_rfl
end Go.Proofs.YtpdaloohgfnbhaaGreatDoor.ftextNames
