/-
  Closed facts on the row of LexTexts: each is reckoned by the kernel over the program's tables.
-/
import Derived.Test.YtcgdeoldgnjdeaaDoorCards
import Derived.JoinedCond
namespace Go.Proofs.YtcgdeoldgnjdeaaDoor.lexTexts
open Go
theorem closed : joinedFacts Tryd.pinned.checked.prog 5 Tryd.f5 (OpenSpec.ofChange Rows.lexTextsSpec).bare Rows.lexTextsRow = true := by kernel_rfl
end Go.Proofs.YtcgdeoldgnjdeaaDoor.lexTexts
