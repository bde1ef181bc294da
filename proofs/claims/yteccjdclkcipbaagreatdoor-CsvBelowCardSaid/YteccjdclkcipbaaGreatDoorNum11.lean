/-
  num.Neg of a right number: what it returns.
-/
import Derived.Test.YteccjdclkcipbaaGreatDoorNum1
import Derived.Test.YteccjdclkcipbaaGreatDoorRefA3
import Derived.Test.YteccjdclkcipbaaGreatDoorNum4
namespace Go.Proofs.YteccjdclkcipbaaGreatDoor
open Go.RowKit

theorem Lies.below {w w' : World} {g : Nat} {t : TypeId} {cs : Array Value} (h : Lies w g t cs) (hb : Below w.heap.size w w') : Lies w' g t cs := (hb.block g h.lt).trans h
end Go.Proofs.YteccjdclkcipbaaGreatDoor
