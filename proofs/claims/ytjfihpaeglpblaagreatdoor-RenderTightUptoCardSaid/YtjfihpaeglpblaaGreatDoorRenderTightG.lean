/-
  Closed facts on the card of RenderTight, second form: each is reckoned by the kernel over the program's tables.
-/
import Derived.Test.YtjfihpaeglpblaaGreatDoorCards
namespace Go.Proofs.YtjfihpaeglpblaaGreatDoor.renderTight
open Go
theorem goes : false = Rows.renderTightUptoRow.goesBy Tryz.pinned.checked.prog := by kernel_rfl
theorem wfText : Rows.renderTightUptoRow.wfByText (Rows.OpenSpec.upto Rows.renderTightSpec) = true := by kernel_rfl
theorem named : Tryz.prog.funcNamed Rows.renderTightUptoRow.func = some 4 := by kernel_rfl
end Go.Proofs.YtjfihpaeglpblaaGreatDoor.renderTight
