/-
  Closed facts on the card of LexTexts: each is reckoned by the kernel over the program's tables.
-/
import Derived.Test.YtcgdeoldgnjdeaaDoorCards
namespace Go.Proofs.YtcgdeoldgnjdeaaDoor.lexTexts
open Go
theorem goes : false = Rows.lexTextsRow.goesBy Tryd.pinned.checked.prog := by kernel_rfl
theorem wfText : Rows.lexTextsRow.wfByText (OpenSpec.ofChange Rows.lexTextsSpec) = true := by kernel_rfl
theorem named : Tryd.prog.funcNamed Rows.lexTextsRow.func = some 5 := by kernel_rfl
end Go.Proofs.YtcgdeoldgnjdeaaDoor.lexTexts
