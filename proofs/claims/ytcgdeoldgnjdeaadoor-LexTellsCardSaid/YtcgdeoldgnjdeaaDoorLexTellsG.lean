/-
  Closed facts on the card of LexTells: each is reckoned by the kernel over the program's tables.
-/
import Derived.Test.YtcgdeoldgnjdeaaDoorCards
namespace Go.Proofs.YtcgdeoldgnjdeaaDoor.lexTells
open Go
theorem goes : false = Rows.lexTellsRow.goesBy Tryd.pinned.checked.prog := by kernel_rfl
theorem wfText : Rows.lexTellsRow.wfByText (OpenSpec.ofChange Rows.lexTellsSpec) = true := by kernel_rfl
theorem named : Tryd.prog.funcNamed Rows.lexTellsRow.func = some 3 := by kernel_rfl
end Go.Proofs.YtcgdeoldgnjdeaaDoor.lexTells
