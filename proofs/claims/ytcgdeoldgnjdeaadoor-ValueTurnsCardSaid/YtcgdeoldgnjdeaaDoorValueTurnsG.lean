/-
  Closed facts on the card of ValueTurns: each is reckoned by the kernel over the program's tables.
-/
import Derived.Test.YtcgdeoldgnjdeaaDoorCards
namespace Go.Proofs.YtcgdeoldgnjdeaaDoor.valueTurns
open Go
theorem goes : false = Rows.valueTurnsRow.goesBy Tryd.pinned.checked.prog := by kernel_rfl
theorem wfText : Rows.valueTurnsRow.wfByText (OpenSpec.ofChange Rows.valueTurnsSpec) = true := by kernel_rfl
theorem named : Tryd.prog.funcNamed Rows.valueTurnsRow.func = some 16 := by kernel_rfl
end Go.Proofs.YtcgdeoldgnjdeaaDoor.valueTurns
