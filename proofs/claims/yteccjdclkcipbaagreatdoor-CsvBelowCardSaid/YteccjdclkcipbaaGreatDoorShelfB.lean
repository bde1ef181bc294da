/-
  The shelf's further contracts: all of them lie in the text Shelf.
-/
import Derived.Test.YteccjdclkcipbaaGreatDoorShelf
namespace Go.Proofs.YteccjdclkcipbaaGreatDoor
end Go.Proofs.YteccjdclkcipbaaGreatDoor
