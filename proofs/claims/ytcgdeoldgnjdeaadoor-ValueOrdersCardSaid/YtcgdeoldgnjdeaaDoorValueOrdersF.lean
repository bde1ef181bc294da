/-
  Closed facts on the row of ValueOrders: each is reckoned by the kernel over the program's tables.
-/
import Derived.Test.YtcgdeoldgnjdeaaDoorCards
import Derived.JoinedCond
namespace Go.Proofs.YtcgdeoldgnjdeaaDoor.valueOrders
open Go
theorem closed : joinedFacts Tryd.pinned.checked.prog 6 Tryd.f6 (OpenSpec.ofChange Rows.valueOrdersSpec).bare Rows.valueOrdersRow = true := by kernel_rfl
end Go.Proofs.YtcgdeoldgnjdeaaDoor.valueOrders
