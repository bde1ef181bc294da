/-
  Closed facts on the row of RenderFixed, second form: each is reckoned by the kernel over the program's tables.
-/
import Derived.Test.YtjfihpaeglpblaaGreatDoorCards
import Derived.JoinedCond
namespace Go.Proofs.YtjfihpaeglpblaaGreatDoor.renderFixed
open Go
set_option maxHeartbeats 100000000 in
theorem closed : joinedFacts Tryz.pinned.checked.prog 6 Tryz.f6 (Rows.OpenSpec.upto Rows.renderFixedSpec).bare Rows.renderFixedUptoRow = true := by
  unfold joinedFacts
  repeat' (with_reducible refine Bool.and_eq_true_iff.2 ⟨?_, ?_⟩)
  all_goals as_aux_lemma => kernel_rfl
end Go.Proofs.YtjfihpaeglpblaaGreatDoor.renderFixed
