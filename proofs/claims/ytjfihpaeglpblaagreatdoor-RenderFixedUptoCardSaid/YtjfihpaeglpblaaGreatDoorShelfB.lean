/-
  The shelf's further contracts: all of them lie in the text Shelf.
-/
import Derived.Test.YtjfihpaeglpblaaGreatDoorShelf
namespace Go.Proofs.YtjfihpaeglpblaaGreatDoor
end Go.Proofs.YtjfihpaeglpblaaGreatDoor
