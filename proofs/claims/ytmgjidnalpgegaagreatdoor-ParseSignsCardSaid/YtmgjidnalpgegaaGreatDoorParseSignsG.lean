/-
  Closed facts on the card of ParseSigns: each is reckoned by the kernel over the program's tables.
-/
import Derived.Test.YtmgjidnalpgegaaGreatDoorCards
namespace Go.Proofs.YtmgjidnalpgegaaGreatDoor.parseSigns
open Go
theorem goes : false = Rows.parseSignsRow.goesBy Tryz.pinned.checked.prog := by kernel_rfl
theorem wfText : Rows.parseSignsRow.wfByText (OpenSpec.ofChange Rows.parseSignsSpec) = true := by kernel_rfl
theorem named : Tryz.prog.funcNamed Rows.parseSignsRow.func = some 6 := by kernel_rfl
end Go.Proofs.YtmgjidnalpgegaaGreatDoor.parseSigns
