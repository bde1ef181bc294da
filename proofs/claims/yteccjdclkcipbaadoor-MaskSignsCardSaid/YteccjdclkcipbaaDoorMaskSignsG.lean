/-
  Closed facts on the card of MaskSigns: each is reckoned by the kernel over the program's tables.
-/
import Derived.Test.YteccjdclkcipbaaDoorCards
namespace Go.Proofs.YteccjdclkcipbaaDoor.maskSigns
open Go
theorem goes : false = Rows.maskSignsRow.goesBy Tryd.pinned.checked.prog := by kernel_rfl
theorem wfText : Rows.maskSignsRow.wfByText (OpenSpec.ofChange Rows.maskSignsSpec) = true := by kernel_rfl
theorem named : Tryd.prog.funcNamed Rows.maskSignsRow.func = some 5 := by kernel_rfl
end Go.Proofs.YteccjdclkcipbaaDoor.maskSigns
