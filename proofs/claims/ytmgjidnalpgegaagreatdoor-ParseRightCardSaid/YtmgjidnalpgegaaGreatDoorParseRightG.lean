/-
  Closed facts on the card of ParseRight: each is reckoned by the kernel over the program's tables.
-/
import Derived.Test.YtmgjidnalpgegaaGreatDoorCards
namespace Go.Proofs.YtmgjidnalpgegaaGreatDoor.parseRight
open Go
theorem goes : false = Rows.parseRightRow.goesBy Tryz.pinned.checked.prog := by kernel_rfl
theorem wfText : Rows.parseRightRow.wfByText (OpenSpec.ofChange Rows.parseRightSpec) = true := by kernel_rfl
theorem named : Tryz.prog.funcNamed Rows.parseRightRow.func = some 3 := by kernel_rfl
end Go.Proofs.YtmgjidnalpgegaaGreatDoor.parseRight
