/-
  Closed facts on the card of RenderSays, second form: each is reckoned by the kernel over the program's tables.
-/
import Derived.Test.YtjfihpaeglpblaaGreatDoorCards
namespace Go.Proofs.YtjfihpaeglpblaaGreatDoor.renderSays
open Go
theorem goes : false = Rows.renderSaysUptoRow.goesBy Tryz.pinned.checked.prog := by kernel_rfl
theorem wfText : Rows.renderSaysUptoRow.wfByText (Rows.OpenSpec.upto Rows.renderSaysSpec) = true := by kernel_rfl
theorem named : Tryz.prog.funcNamed Rows.renderSaysUptoRow.func = some 3 := by kernel_rfl
end Go.Proofs.YtjfihpaeglpblaaGreatDoor.renderSays
