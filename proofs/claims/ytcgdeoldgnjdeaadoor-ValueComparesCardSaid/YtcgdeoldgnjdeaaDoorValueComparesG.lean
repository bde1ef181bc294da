/-
  Closed facts on the card of ValueCompares: each is reckoned by the kernel over the program's tables.
-/
import Derived.Test.YtcgdeoldgnjdeaaDoorCards
namespace Go.Proofs.YtcgdeoldgnjdeaaDoor.valueCompares
open Go
theorem goes : false = Rows.valueComparesRow.goesBy Tryd.pinned.checked.prog := by kernel_rfl
theorem wfText : Rows.valueComparesRow.wfByText (OpenSpec.ofChange Rows.valueComparesSpec) = true := by kernel_rfl
theorem named : Tryd.prog.funcNamed Rows.valueComparesRow.func = some 9 := by kernel_rfl
end Go.Proofs.YtcgdeoldgnjdeaaDoor.valueCompares
