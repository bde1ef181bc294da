/-
  Closed facts on the row of LexAgain: each is reckoned by the kernel over the program's tables.
-/
import Derived.Test.YtcgdeoldgnjdeaaDoorCards
import Derived.JoinedCond
namespace Go.Proofs.YtcgdeoldgnjdeaaDoor.lexAgain
open Go
set_option maxHeartbeats 100000000 in
theorem closed : joinedFacts Tryd.pinned.checked.prog 12 Tryd.f12 (OpenSpec.ofChange Rows.lexAgainSpec).bare Rows.lexAgainRow = true := by
  unfold joinedFacts
  repeat' (with_reducible refine Bool.and_eq_true_iff.2 ⟨?_, ?_⟩)
  all_goals as_aux_lemma => kernel_rfl
end Go.Proofs.YtcgdeoldgnjdeaaDoor.lexAgain
