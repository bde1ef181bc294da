/-
  Closed facts on the row of ValueCompares: each is reckoned by the kernel over the program's tables.
-/
import Derived.Test.YtcgdeoldgnjdeaaDoorCards
import Derived.JoinedCond
namespace Go.Proofs.YtcgdeoldgnjdeaaDoor.valueCompares
open Go
theorem closed : joinedFacts Tryd.pinned.checked.prog 9 Tryd.f9 (OpenSpec.ofChange Rows.valueComparesSpec).bare Rows.valueComparesRow = true := by kernel_rfl
end Go.Proofs.YtcgdeoldgnjdeaaDoor.valueCompares
