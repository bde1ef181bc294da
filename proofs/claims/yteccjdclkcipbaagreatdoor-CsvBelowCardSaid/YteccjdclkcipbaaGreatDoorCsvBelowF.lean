/-
  Closed facts on the row of CsvBelow: each is reckoned by the kernel over the program's tables.
-/
import Derived.Test.YteccjdclkcipbaaGreatDoorCards
import Derived.JoinedCond
namespace Go.Proofs.YteccjdclkcipbaaGreatDoor.csvBelow
open Go
set_option maxHeartbeats 100000000 in
theorem closed : joinedFacts Tryz.pinned.checked.prog 5 Tryz.f5 (OpenSpec.ofChange Rows.csvBelowSpec).bare Rows.csvBelowRow = true := by
  unfold joinedFacts
  repeat' (with_reducible refine Bool.and_eq_true_iff.2 ⟨?_, ?_⟩)
  all_goals as_aux_lemma => kernel_rfl
end Go.Proofs.YteccjdclkcipbaaGreatDoor.csvBelow
