/-
  Closed facts on the row of ValueMakes: each is reckoned by the kernel over the program's tables.
-/
import Derived.Test.YtcgdeoldgnjdeaaDoorCards
import Derived.JoinedCond
namespace Go.Proofs.YtcgdeoldgnjdeaaDoor.valueMakes
open Go
theorem closed : joinedFacts Tryd.pinned.checked.prog 10 Tryd.f10 (OpenSpec.ofChange Rows.valueMakesSpec).bare Rows.valueMakesRow = true := by kernel_rfl
end Go.Proofs.YtcgdeoldgnjdeaaDoor.valueMakes
