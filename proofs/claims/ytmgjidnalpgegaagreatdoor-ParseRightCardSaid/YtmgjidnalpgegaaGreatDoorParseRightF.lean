/-
  Closed facts on the row of ParseRight: each is reckoned by the kernel over the program's tables.
-/
import Derived.Test.YtmgjidnalpgegaaGreatDoorCards
import Derived.JoinedCond
namespace Go.Proofs.YtmgjidnalpgegaaGreatDoor.parseRight
open Go
set_option maxHeartbeats 100000000 in
theorem closed : joinedFacts Tryz.pinned.checked.prog 3 Tryz.f3 (OpenSpec.ofChange Rows.parseRightSpec).bare Rows.parseRightRow = true := by
  unfold joinedFacts
  repeat' (with_reducible refine Bool.and_eq_true_iff.2 ⟨?_, ?_⟩)
  all_goals as_aux_lemma => kernel_rfl
end Go.Proofs.YtmgjidnalpgegaaGreatDoor.parseRight
