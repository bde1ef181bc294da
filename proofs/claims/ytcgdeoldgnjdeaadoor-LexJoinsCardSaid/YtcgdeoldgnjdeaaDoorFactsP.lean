/-
  Closed facts on the program that every card of this seat asks: reckoned by the kernel.
-/
import Derived.Test.YtcgdeoldgnjdeaaDoorCards
namespace Go.Proofs.YtcgdeoldgnjdeaaDoor
open Go
theorem progMain : Tryd.pinned.checked.prog.mainIs = some (Rows.lexTextsCard.stood.harness.1, Rows.lexTextsCard.stood.harness.2.toList) := by kernel_rfl
theorem progLooks : false = Tryd.pinned.checked.prog.looks [] := by kernel_rfl
end Go.Proofs.YtcgdeoldgnjdeaaDoor
