/-
  Closed facts on the card of CsvFull: each is reckoned by the kernel over the program's tables.
-/
import Derived.Test.YteccjdclkcipbaaDoorCards
namespace Go.Proofs.YteccjdclkcipbaaDoor.csvFull
open Go
theorem goes : false = Rows.csvFullRow.goesBy Tryd.pinned.checked.prog := by kernel_rfl
theorem wfText : Rows.csvFullRow.wfByText (OpenSpec.ofChange Rows.csvFullSpec) = true := by kernel_rfl
theorem named : Tryd.prog.funcNamed Rows.csvFullRow.func = some 10 := by kernel_rfl
end Go.Proofs.YteccjdclkcipbaaDoor.csvFull
