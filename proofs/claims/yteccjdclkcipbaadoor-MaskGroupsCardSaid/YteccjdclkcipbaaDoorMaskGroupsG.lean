/-
  Closed facts on the card of MaskGroups: each is reckoned by the kernel over the program's tables.
-/
import Derived.Test.YteccjdclkcipbaaDoorCards
namespace Go.Proofs.YteccjdclkcipbaaDoor.maskGroups
open Go
theorem goes : false = Rows.maskGroupsRow.goesBy Tryd.pinned.checked.prog := by kernel_rfl
theorem wfText : Rows.maskGroupsRow.wfByText (OpenSpec.ofChange Rows.maskGroupsSpec) = true := by kernel_rfl
theorem named : Tryd.prog.funcNamed Rows.maskGroupsRow.func = some 6 := by kernel_rfl
end Go.Proofs.YteccjdclkcipbaaDoor.maskGroups
