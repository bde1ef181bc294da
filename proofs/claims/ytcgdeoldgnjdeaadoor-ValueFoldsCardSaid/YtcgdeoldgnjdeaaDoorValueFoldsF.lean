/-
  Closed facts on the row of ValueFolds: each is reckoned by the kernel over the program's tables.
-/
import Derived.Test.YtcgdeoldgnjdeaaDoorCards
import Derived.JoinedCond
namespace Go.Proofs.YtcgdeoldgnjdeaaDoor.valueFolds
open Go
theorem closed : joinedFacts Tryd.pinned.checked.prog 8 Tryd.f8 (OpenSpec.ofChange Rows.valueFoldsSpec).bare Rows.valueFoldsRow = true := by kernel_rfl
end Go.Proofs.YtcgdeoldgnjdeaaDoor.valueFolds
