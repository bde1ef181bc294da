/-
  Closed facts on the card of LexNumbers: each is reckoned by the kernel over the program's tables.
-/
import Derived.Test.YtcgdeoldgnjdeaaDoorCards
namespace Go.Proofs.YtcgdeoldgnjdeaaDoor.lexNumbers
open Go
theorem goes : false = Rows.lexNumbersRow.goesBy Tryd.pinned.checked.prog := by kernel_rfl
theorem wfText : Rows.lexNumbersRow.wfByText (OpenSpec.ofChange Rows.lexNumbersSpec) = true := by kernel_rfl
theorem named : Tryd.prog.funcNamed Rows.lexNumbersRow.func = some 14 := by kernel_rfl
end Go.Proofs.YtcgdeoldgnjdeaaDoor.lexNumbers
