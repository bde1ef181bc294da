/-
  Closed facts on the card of ParseFolds: each is reckoned by the kernel over the program's tables.
-/
import Derived.Test.YtmgjidnalpgegaaGreatDoorCards
namespace Go.Proofs.YtmgjidnalpgegaaGreatDoor.parseFolds
open Go
theorem goes : false = Rows.parseFoldsRow.goesBy Tryz.pinned.checked.prog := by kernel_rfl
theorem wfText : Rows.parseFoldsRow.wfByText (OpenSpec.ofChange Rows.parseFoldsSpec) = true := by kernel_rfl
theorem named : Tryz.prog.funcNamed Rows.parseFoldsRow.func = some 5 := by kernel_rfl
end Go.Proofs.YtmgjidnalpgegaaGreatDoor.parseFolds
