/-
  Closed facts on the card of LexMarks: each is reckoned by the kernel over the program's tables.
-/
import Derived.Test.YtcgdeoldgnjdeaaDoorCards
namespace Go.Proofs.YtcgdeoldgnjdeaaDoor.lexMarks
open Go
theorem goes : false = Rows.lexMarksRow.goesBy Tryd.pinned.checked.prog := by kernel_rfl
theorem wfText : Rows.lexMarksRow.wfByText (OpenSpec.ofChange Rows.lexMarksSpec) = true := by kernel_rfl
theorem named : Tryd.prog.funcNamed Rows.lexMarksRow.func = some 13 := by kernel_rfl
end Go.Proofs.YtcgdeoldgnjdeaaDoor.lexMarks
