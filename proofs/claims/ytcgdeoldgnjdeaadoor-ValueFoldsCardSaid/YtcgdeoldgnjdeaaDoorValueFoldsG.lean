/-
  Closed facts on the card of ValueFolds: each is reckoned by the kernel over the program's tables.
-/
import Derived.Test.YtcgdeoldgnjdeaaDoorCards
namespace Go.Proofs.YtcgdeoldgnjdeaaDoor.valueFolds
open Go
theorem goes : false = Rows.valueFoldsRow.goesBy Tryd.pinned.checked.prog := by kernel_rfl
theorem wfText : Rows.valueFoldsRow.wfByText (OpenSpec.ofChange Rows.valueFoldsSpec) = true := by kernel_rfl
theorem named : Tryd.prog.funcNamed Rows.valueFoldsRow.func = some 8 := by kernel_rfl
end Go.Proofs.YtcgdeoldgnjdeaaDoor.valueFolds
