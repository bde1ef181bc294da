/-
  num.Neg of a right number: what it returns.
-/
import Derived.Test.YtpdaloohgfnbhaaGreatDoorNum1
import Derived.Test.YtpdaloohgfnbhaaGreatDoorRefA3
import Derived.Test.YtpdaloohgfnbhaaGreatDoorNum4
namespace Go.Proofs.YtpdaloohgfnbhaaGreatDoor
open Go.RowKit

theorem Lies.below {w w' : World} {g : Nat} {t : TypeId} {cs : Array Value} (h : Lies w g t cs) (hb : Below w.heap.size w w') : Lies w' g t cs := (hb.block g h.lt).trans h
end Go.Proofs.YtpdaloohgfnbhaaGreatDoor
