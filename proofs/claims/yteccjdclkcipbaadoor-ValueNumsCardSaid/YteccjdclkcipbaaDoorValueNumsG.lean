/-
  Closed facts on the card of ValueNums: each is reckoned by the kernel over the program's tables.
-/
import Derived.Test.YteccjdclkcipbaaDoorCards
namespace Go.Proofs.YteccjdclkcipbaaDoor.valueNums
open Go
theorem goes : false = Rows.valueNumsRow.goesBy Tryd.pinned.checked.prog := by kernel_rfl
theorem wfText : Rows.valueNumsRow.wfByText (OpenSpec.ofChange Rows.valueNumsSpec) = true := by kernel_rfl
theorem named : Tryd.prog.funcNamed Rows.valueNumsRow.func = some 3 := by kernel_rfl
end Go.Proofs.YteccjdclkcipbaaDoor.valueNums
