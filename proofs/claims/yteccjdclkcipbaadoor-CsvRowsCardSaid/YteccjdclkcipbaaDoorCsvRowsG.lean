/-
  Closed facts on the card of CsvRows: each is reckoned by the kernel over the program's tables.
-/
import Derived.Test.YteccjdclkcipbaaDoorCards
namespace Go.Proofs.YteccjdclkcipbaaDoor.csvRows
open Go
theorem goes : false = Rows.csvRowsRow.goesBy Tryd.pinned.checked.prog := by kernel_rfl
theorem wfText : Rows.csvRowsRow.wfByText (OpenSpec.ofChange Rows.csvRowsSpec) = true := by kernel_rfl
theorem named : Tryd.prog.funcNamed Rows.csvRowsRow.func = some 9 := by kernel_rfl
end Go.Proofs.YteccjdclkcipbaaDoor.csvRows
