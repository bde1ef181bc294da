/-
  Closed facts on the program that every card of this seat asks: reckoned by the kernel.
-/
import Derived.Test.YtpdaloohgfnbhaaGreatDoorCards
namespace Go.Proofs.YtpdaloohgfnbhaaGreatDoor
open Go
theorem progMain : Tryz.pinned.checked.prog.mainIs = some (Rows.ftextPartsCard.stood.harness.1, Rows.ftextPartsCard.stood.harness.2.toList) := by kernel_rfl
theorem progLooks : false = Tryz.pinned.checked.prog.looks [] := by kernel_rfl
end Go.Proofs.YtpdaloohgfnbhaaGreatDoor
