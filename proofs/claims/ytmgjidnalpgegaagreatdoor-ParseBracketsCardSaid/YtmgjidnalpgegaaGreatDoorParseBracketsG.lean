/-
  Closed facts on the card of ParseBrackets: each is reckoned by the kernel over the program's tables.
-/
import Derived.Test.YtmgjidnalpgegaaGreatDoorCards
namespace Go.Proofs.YtmgjidnalpgegaaGreatDoor.parseBrackets
open Go
theorem goes : false = Rows.parseBracketsRow.goesBy Tryz.pinned.checked.prog := by kernel_rfl
theorem wfText : Rows.parseBracketsRow.wfByText (OpenSpec.ofChange Rows.parseBracketsSpec) = true := by kernel_rfl
theorem named : Tryz.prog.funcNamed Rows.parseBracketsRow.func = some 4 := by kernel_rfl
end Go.Proofs.YtmgjidnalpgegaaGreatDoor.parseBrackets
