/-
  Closed facts on the card of ParseCalls: each is reckoned by the kernel over the program's tables.
-/
import Derived.Test.YtmgjidnalpgegaaGreatDoorCards
namespace Go.Proofs.YtmgjidnalpgegaaGreatDoor.parseCalls
open Go
theorem goes : false = Rows.parseCallsRow.goesBy Tryz.pinned.checked.prog := by kernel_rfl
theorem wfText : Rows.parseCallsRow.wfByText (OpenSpec.ofChange Rows.parseCallsSpec) = true := by kernel_rfl
theorem named : Tryz.prog.funcNamed Rows.parseCallsRow.func = some 7 := by kernel_rfl
end Go.Proofs.YtmgjidnalpgegaaGreatDoor.parseCalls
