/-
  Closed facts on the row of CsvFull: each is reckoned by the kernel over the program's tables.
-/
import Derived.Test.YteccjdclkcipbaaDoorCards
import Derived.JoinedCond
namespace Go.Proofs.YteccjdclkcipbaaDoor.csvFull
open Go
set_option maxHeartbeats 100000000 in
theorem closed : joinedFacts Tryd.pinned.checked.prog 10 Tryd.f10 (OpenSpec.ofChange Rows.csvFullSpec).bare Rows.csvFullRow = true := by
  unfold joinedFacts
  repeat' (with_reducible refine Bool.and_eq_true_iff.2 ⟨?_, ?_⟩)
  all_goals as_aux_lemma => kernel_rfl
end Go.Proofs.YteccjdclkcipbaaDoor.csvFull
