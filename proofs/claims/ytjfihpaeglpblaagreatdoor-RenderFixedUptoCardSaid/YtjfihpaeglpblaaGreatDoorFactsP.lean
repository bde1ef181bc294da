/-
  Closed facts on the program that every card of this seat asks: reckoned by the kernel.
-/
import Derived.Test.YtjfihpaeglpblaaGreatDoorCards
namespace Go.Proofs.YtjfihpaeglpblaaGreatDoor
open Go
theorem progMain : Tryz.pinned.checked.prog.mainIs = some (Rows.renderSaysCard.stood.harness.1, Rows.renderSaysCard.stood.harness.2.toList) := by kernel_rfl
theorem progLooks : false = Tryz.pinned.checked.prog.looks [] := by kernel_rfl
end Go.Proofs.YtjfihpaeglpblaaGreatDoor
