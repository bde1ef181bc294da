/-
  Closed facts on the card of LexJoins: each is reckoned by the kernel over the program's tables.
-/
import Derived.Test.YtcgdeoldgnjdeaaDoorCards
namespace Go.Proofs.YtcgdeoldgnjdeaaDoor.lexJoins
open Go
theorem goes : false = Rows.lexJoinsRow.goesBy Tryd.pinned.checked.prog := by kernel_rfl
theorem wfText : Rows.lexJoinsRow.wfByText (OpenSpec.ofChange Rows.lexJoinsSpec) = true := by kernel_rfl
theorem named : Tryd.prog.funcNamed Rows.lexJoinsRow.func = some 11 := by kernel_rfl
end Go.Proofs.YtcgdeoldgnjdeaaDoor.lexJoins
