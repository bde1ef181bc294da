/-
  Closed facts on the card of LexBeside: each is reckoned by the kernel over the program's tables.
-/
import Derived.Test.YtcgdeoldgnjdeaaDoorCards
namespace Go.Proofs.YtcgdeoldgnjdeaaDoor.lexBeside
open Go
theorem goes : false = Rows.lexBesideRow.goesBy Tryd.pinned.checked.prog := by kernel_rfl
theorem wfText : Rows.lexBesideRow.wfByText (OpenSpec.ofChange Rows.lexBesideSpec) = true := by kernel_rfl
theorem named : Tryd.prog.funcNamed Rows.lexBesideRow.func = some 4 := by kernel_rfl
end Go.Proofs.YtcgdeoldgnjdeaaDoor.lexBeside
