/-
  Closed facts on the card of ValueOrders: each is reckoned by the kernel over the program's tables.
-/
import Derived.Test.YtcgdeoldgnjdeaaDoorCards
namespace Go.Proofs.YtcgdeoldgnjdeaaDoor.valueOrders
open Go
theorem goes : false = Rows.valueOrdersRow.goesBy Tryd.pinned.checked.prog := by kernel_rfl
theorem wfText : Rows.valueOrdersRow.wfByText (OpenSpec.ofChange Rows.valueOrdersSpec) = true := by kernel_rfl
theorem named : Tryd.prog.funcNamed Rows.valueOrdersRow.func = some 6 := by kernel_rfl
end Go.Proofs.YtcgdeoldgnjdeaaDoor.valueOrders
