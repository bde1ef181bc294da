/-
  Closed facts on the row of ValueReads: each is reckoned by the kernel over the program's tables.
-/
import Derived.Test.YtcgdeoldgnjdeaaDoorCards
import Derived.JoinedCond
namespace Go.Proofs.YtcgdeoldgnjdeaaDoor.valueReads
open Go
theorem closed : joinedFacts Tryd.pinned.checked.prog 7 Tryd.f7 (OpenSpec.ofChange Rows.valueReadsSpec).bare Rows.valueReadsRow = true := by kernel_rfl
end Go.Proofs.YtcgdeoldgnjdeaaDoor.valueReads
