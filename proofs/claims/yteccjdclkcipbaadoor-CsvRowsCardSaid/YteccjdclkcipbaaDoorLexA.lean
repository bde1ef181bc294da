/-
  The document's example, as counterpanelaw05.awake asks for it: it returns true.
-/
import Derived.Test.YteccjdclkcipbaaDoorLex8
namespace Go.Proofs.YteccjdclkcipbaaDoor
open Go.RowKit

def ex1 : Bs := [34, 97, 34, 34, 98, 34, 60, 61, 32, 36, 65, 49]
def ex2 : Bs := [49, 46, 120]
theorem pLex_ex1 : pLex ex1 = .ok [⟨2, [97, 34, 98], 0⟩, ⟨5, [60, 61], 6⟩, ⟨4, [36, 65, 49], 9⟩] := by kernel_rfl
theorem pLex_ex2 : pLex ex2 = .error 1 := by kernel_rfl
end Go.Proofs.YteccjdclkcipbaaDoor
