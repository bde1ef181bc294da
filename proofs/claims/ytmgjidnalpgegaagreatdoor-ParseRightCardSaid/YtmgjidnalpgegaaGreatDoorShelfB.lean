/-
  The shelf's further contracts: all of them lie in the text Shelf.
-/
import Derived.Test.YtmgjidnalpgegaaGreatDoorShelf
namespace Go.Proofs.YtmgjidnalpgegaaGreatDoor
end Go.Proofs.YtmgjidnalpgegaaGreatDoor
