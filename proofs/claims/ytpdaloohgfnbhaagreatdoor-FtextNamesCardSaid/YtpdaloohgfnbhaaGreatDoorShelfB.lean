/-
  The shelf's further contracts: all of them lie in the text Shelf.
-/
import Derived.Test.YtpdaloohgfnbhaaGreatDoorShelf
namespace Go.Proofs.YtpdaloohgfnbhaaGreatDoor
end Go.Proofs.YtpdaloohgfnbhaaGreatDoor
