/-
  Closed facts on the card of ValueReads: each is reckoned by the kernel over the program's tables.
-/
import Derived.Test.YtcgdeoldgnjdeaaDoorCards
namespace Go.Proofs.YtcgdeoldgnjdeaaDoor.valueReads
open Go
theorem goes : false = Rows.valueReadsRow.goesBy Tryd.pinned.checked.prog := by kernel_rfl
theorem wfText : Rows.valueReadsRow.wfByText (OpenSpec.ofChange Rows.valueReadsSpec) = true := by kernel_rfl
theorem named : Tryd.prog.funcNamed Rows.valueReadsRow.func = some 7 := by kernel_rfl
end Go.Proofs.YtcgdeoldgnjdeaaDoor.valueReads
