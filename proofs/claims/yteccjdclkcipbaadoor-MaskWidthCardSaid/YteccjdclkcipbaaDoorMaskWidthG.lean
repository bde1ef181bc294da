/-
  Closed facts on the card of MaskWidth: each is reckoned by the kernel over the program's tables.
-/
import Derived.Test.YteccjdclkcipbaaDoorCards
namespace Go.Proofs.YteccjdclkcipbaaDoor.maskWidth
open Go
theorem goes : false = Rows.maskWidthRow.goesBy Tryd.pinned.checked.prog := by kernel_rfl
theorem wfText : Rows.maskWidthRow.wfByText (OpenSpec.ofChange Rows.maskWidthSpec) = true := by kernel_rfl
theorem named : Tryd.prog.funcNamed Rows.maskWidthRow.func = some 8 := by kernel_rfl
end Go.Proofs.YteccjdclkcipbaaDoor.maskWidth
