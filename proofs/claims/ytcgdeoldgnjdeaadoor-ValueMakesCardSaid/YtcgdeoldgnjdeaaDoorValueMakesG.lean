/-
  Closed facts on the card of ValueMakes: each is reckoned by the kernel over the program's tables.
-/
import Derived.Test.YtcgdeoldgnjdeaaDoorCards
namespace Go.Proofs.YtcgdeoldgnjdeaaDoor.valueMakes
open Go
theorem goes : false = Rows.valueMakesRow.goesBy Tryd.pinned.checked.prog := by kernel_rfl
theorem wfText : Rows.valueMakesRow.wfByText (OpenSpec.ofChange Rows.valueMakesSpec) = true := by kernel_rfl
theorem named : Tryd.prog.funcNamed Rows.valueMakesRow.func = some 10 := by kernel_rfl
end Go.Proofs.YtcgdeoldgnjdeaaDoor.valueMakes
