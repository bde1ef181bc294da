/-
  Closed facts on the program that every card of this seat asks: reckoned by the kernel.
-/
import Derived.Test.YteccjdclkcipbaaDoorCards
namespace Go.Proofs.YteccjdclkcipbaaDoor
open Go
theorem progMain : Tryd.pinned.checked.prog.mainIs = some (Rows.valueNumsCard.stood.harness.1, Rows.valueNumsCard.stood.harness.2.toList) := by kernel_rfl
theorem progLooks : false = Tryd.pinned.checked.prog.looks [] := by kernel_rfl
end Go.Proofs.YteccjdclkcipbaaDoor
