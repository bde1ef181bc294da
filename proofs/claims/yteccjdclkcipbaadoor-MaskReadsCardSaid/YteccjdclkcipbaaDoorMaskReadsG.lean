/-
  Closed facts on the card of MaskReads: each is reckoned by the kernel over the program's tables.
-/
import Derived.Test.YteccjdclkcipbaaDoorCards
namespace Go.Proofs.YteccjdclkcipbaaDoor.maskReads
open Go
theorem goes : false = Rows.maskReadsRow.goesBy Tryd.pinned.checked.prog := by kernel_rfl
theorem wfText : Rows.maskReadsRow.wfByText (OpenSpec.ofChange Rows.maskReadsSpec) = true := by kernel_rfl
theorem named : Tryd.prog.funcNamed Rows.maskReadsRow.func = some 4 := by kernel_rfl
end Go.Proofs.YteccjdclkcipbaaDoor.maskReads
