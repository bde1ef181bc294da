/-
  Closed facts on the row of LexBeside: each is reckoned by the kernel over the program's tables.
-/
import Derived.Test.YtcgdeoldgnjdeaaDoorCards
import Derived.JoinedCond
namespace Go.Proofs.YtcgdeoldgnjdeaaDoor.lexBeside
open Go
theorem closed : joinedFacts Tryd.pinned.checked.prog 4 Tryd.f4 (OpenSpec.ofChange Rows.lexBesideSpec).bare Rows.lexBesideRow = true := by kernel_rfl
end Go.Proofs.YtcgdeoldgnjdeaaDoor.lexBeside
