/-
  Closed facts on the card of ValueShown: each is reckoned by the kernel over the program's tables.
-/
import Derived.Test.YtcgdeoldgnjdeaaDoorCards
namespace Go.Proofs.YtcgdeoldgnjdeaaDoor.valueShown
open Go
theorem goes : false = Rows.valueShownRow.goesBy Tryd.pinned.checked.prog := by kernel_rfl
theorem wfText : Rows.valueShownRow.wfByText (OpenSpec.ofChange Rows.valueShownSpec) = true := by kernel_rfl
theorem named : Tryd.prog.funcNamed Rows.valueShownRow.func = some 15 := by kernel_rfl
end Go.Proofs.YtcgdeoldgnjdeaaDoor.valueShown
