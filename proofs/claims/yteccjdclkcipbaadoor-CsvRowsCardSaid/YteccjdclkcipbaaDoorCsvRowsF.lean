/-
  Closed facts on the row of CsvRows: each is reckoned by the kernel over the program's tables.
-/
import Derived.Test.YteccjdclkcipbaaDoorCards
import Derived.JoinedCond
namespace Go.Proofs.YteccjdclkcipbaaDoor.csvRows
open Go
set_option maxHeartbeats 100000000 in
theorem closed : joinedFacts Tryd.pinned.checked.prog 9 Tryd.f9 (OpenSpec.ofChange Rows.csvRowsSpec).bare Rows.csvRowsRow = true := by
  unfold joinedFacts
  repeat' (with_reducible refine Bool.and_eq_true_iff.2 ⟨?_, ?_⟩)
  all_goals as_aux_lemma => kernel_rfl
end Go.Proofs.YteccjdclkcipbaaDoor.csvRows
