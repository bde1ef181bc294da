/-
  Closed facts on the card of RenderFixed, second form: each is reckoned by the kernel over the program's tables.
-/
import Derived.Test.YtjfihpaeglpblaaGreatDoorCards
namespace Go.Proofs.YtjfihpaeglpblaaGreatDoor.renderFixed
open Go
theorem goes : false = Rows.renderFixedUptoRow.goesBy Tryz.pinned.checked.prog := by kernel_rfl
theorem wfText : Rows.renderFixedUptoRow.wfByText (Rows.OpenSpec.upto Rows.renderFixedSpec) = true := by kernel_rfl
theorem named : Tryz.prog.funcNamed Rows.renderFixedUptoRow.func = some 6 := by kernel_rfl
end Go.Proofs.YtjfihpaeglpblaaGreatDoor.renderFixed
