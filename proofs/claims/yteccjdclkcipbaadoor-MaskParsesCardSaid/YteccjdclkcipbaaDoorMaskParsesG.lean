/-
  Closed facts on the card of MaskParses: each is reckoned by the kernel over the program's tables.
-/
import Derived.Test.YteccjdclkcipbaaDoorCards
namespace Go.Proofs.YteccjdclkcipbaaDoor.maskParses
open Go
theorem goes : false = Rows.maskParsesRow.goesBy Tryd.pinned.checked.prog := by kernel_rfl
theorem wfText : Rows.maskParsesRow.wfByText (OpenSpec.ofChange Rows.maskParsesSpec) = true := by kernel_rfl
theorem named : Tryd.prog.funcNamed Rows.maskParsesRow.func = some 7 := by kernel_rfl
end Go.Proofs.YteccjdclkcipbaaDoor.maskParses
