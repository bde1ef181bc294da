/-
  The document's examples of formats, reckoned.
-/
import Derived.Test.YteccjdclkcipbaaDoorPlainMe
namespace Go.Proofs.YteccjdclkcipbaaDoor
open Go.RowKit

def secA : MS := ⟨[⟨4, [], 1, true, true, 2, 2⟩], 0, true⟩
def secB0 : MS := ⟨[⟨4, [], 1, false, false, 0, 0⟩, ⟨1, [37], 0, false, false, 0, 0⟩], 1, true⟩
def secB1 : MS := ⟨[⟨0, [40], 0, false, false, 0, 0⟩, ⟨4, [], 1, false, false, 0, 0⟩, ⟨1, [37], 0, false, false, 0, 0⟩, ⟨0, [41], 0, false, false, 0, 0⟩], 1, true⟩
theorem parse_A : mParse [35, 44, 35, 35, 48, 46, 48, 48] = .inl [secA] := by rfl
theorem parse_B : mParse [48, 37, 59, 40, 48, 37, 41] = .inl [secB0, secB1] := by rfl
theorem show_A : mNumber [secA] 12345 (-1) = [49, 44, 50, 51, 52, 46, 53, 48] := by decide +kernel
theorem show_B : mNumber [secB0, secB1] (-125) (-3) = [40, 49, 51, 37, 41] := by decide +kernel
end Go.Proofs.YteccjdclkcipbaaDoor
