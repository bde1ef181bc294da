/-
  Closed facts on the card of RenderRelative, second form: each is reckoned by the kernel over the program's tables.
-/
import Derived.Test.YtjfihpaeglpblaaGreatDoorCards
namespace Go.Proofs.YtjfihpaeglpblaaGreatDoor.renderRelative
open Go
theorem goes : false = Rows.renderRelativeUptoRow.goesBy Tryz.pinned.checked.prog := by kernel_rfl
theorem wfText : Rows.renderRelativeUptoRow.wfByText (Rows.OpenSpec.upto Rows.renderRelativeSpec) = true := by kernel_rfl
theorem named : Tryz.prog.funcNamed Rows.renderRelativeUptoRow.func = some 5 := by kernel_rfl
end Go.Proofs.YtjfihpaeglpblaaGreatDoor.renderRelative
