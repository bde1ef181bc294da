/-
  Closed facts on the program that every card of this seat asks: reckoned by the kernel.
-/
import Derived.Test.YtmgjidnalpgegaaGreatDoorCards
namespace Go.Proofs.YtmgjidnalpgegaaGreatDoor
open Go
theorem progMain : Tryz.pinned.checked.prog.mainIs = some (Rows.parseRightCard.stood.harness.1, Rows.parseRightCard.stood.harness.2.toList) := by kernel_rfl
theorem progLooks : false = Tryz.pinned.checked.prog.looks [] := by kernel_rfl
end Go.Proofs.YtmgjidnalpgegaaGreatDoor
