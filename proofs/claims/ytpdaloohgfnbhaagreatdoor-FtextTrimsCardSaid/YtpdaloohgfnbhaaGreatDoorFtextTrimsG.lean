/-
  Closed facts on the card of FtextTrims: each is reckoned by the kernel over the program's tables.
-/
import Derived.Test.YtpdaloohgfnbhaaGreatDoorCards
namespace Go.Proofs.YtpdaloohgfnbhaaGreatDoor.ftextTrims
open Go
theorem goes : false = Rows.ftextTrimsRow.goesBy Tryz.pinned.checked.prog := by kernel_rfl
theorem wfText : Rows.ftextTrimsRow.wfByText (OpenSpec.ofChange Rows.ftextTrimsSpec) = true := by kernel_rfl
theorem named : Tryz.prog.funcNamed Rows.ftextTrimsRow.func = some 5 := by kernel_rfl
end Go.Proofs.YtpdaloohgfnbhaaGreatDoor.ftextTrims
