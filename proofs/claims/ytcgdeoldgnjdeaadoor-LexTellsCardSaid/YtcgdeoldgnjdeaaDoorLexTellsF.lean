/-
  Closed facts on the row of LexTells: each is reckoned by the kernel over the program's tables.
-/
import Derived.Test.YtcgdeoldgnjdeaaDoorCards
import Derived.JoinedCond
namespace Go.Proofs.YtcgdeoldgnjdeaaDoor.lexTells
open Go
theorem closed : joinedFacts Tryd.pinned.checked.prog 3 Tryd.f3 (OpenSpec.ofChange Rows.lexTellsSpec).bare Rows.lexTellsRow = true := by kernel_rfl
end Go.Proofs.YtcgdeoldgnjdeaaDoor.lexTells
