/-
  The shelf's further contracts: all of them lie in the text Shelf.
-/
import Derived.Test.YteccjdclkcipbaaDoorShelf
namespace Go.Proofs.YteccjdclkcipbaaDoor
end Go.Proofs.YteccjdclkcipbaaDoor
