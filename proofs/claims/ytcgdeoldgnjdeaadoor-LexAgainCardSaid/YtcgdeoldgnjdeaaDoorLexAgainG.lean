/-
  Closed facts on the card of LexAgain: each is reckoned by the kernel over the program's tables.
-/
import Derived.Test.YtcgdeoldgnjdeaaDoorCards
namespace Go.Proofs.YtcgdeoldgnjdeaaDoor.lexAgain
open Go
theorem goes : false = Rows.lexAgainRow.goesBy Tryd.pinned.checked.prog := by kernel_rfl
theorem wfText : Rows.lexAgainRow.wfByText (OpenSpec.ofChange Rows.lexAgainSpec) = true := by kernel_rfl
theorem named : Tryd.prog.funcNamed Rows.lexAgainRow.func = some 12 := by kernel_rfl
end Go.Proofs.YtcgdeoldgnjdeaaDoor.lexAgain
