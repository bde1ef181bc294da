/-
  Closed facts on the card of FtextLens: each is reckoned by the kernel over the program's tables.
-/
import Derived.Test.YtpdaloohgfnbhaaGreatDoorCards
namespace Go.Proofs.YtpdaloohgfnbhaaGreatDoor.ftextLens
open Go
theorem goes : false = Rows.ftextLensRow.goesBy Tryz.pinned.checked.prog := by kernel_rfl
theorem wfText : Rows.ftextLensRow.wfByText (OpenSpec.ofChange Rows.ftextLensSpec) = true := by kernel_rfl
theorem named : Tryz.prog.funcNamed Rows.ftextLensRow.func = some 6 := by kernel_rfl
end Go.Proofs.YtpdaloohgfnbhaaGreatDoor.ftextLens
