/-
  counterpanelaw05.LexTexts: the walk.
-/
import Derived.Test.YteccjdclkcipbaaDoorLexA
import Derived.Test.YteccjdclkcipbaaDoorLex8
import Derived.Test.YteccjdclkcipbaaDoorVal2
import Derived.Test.YteccjdclkcipbaaDoorPl1
namespace Go.Proofs.YteccjdclkcipbaaDoor
open Go.RowKit

/-- bytes that came in: a slice of them -/
def InBytes (w : World) (A : Option Addr) (b : Bs) : Prop := 0 < b.length → ∃ g o, A = some ⟨g, o, none⟩ ∧ g < w.heap.size ∧ ∀ j (h : j < b.length), w.cell? ⟨g, o + j, none⟩ = some (.int .u8 (b[j].toNat : Int))
theorem InBytes.next {w w' : World} {A : Option Addr} {b : Bs} (h : InBytes w A b) (hb : Below w.heap.size w w') : InBytes w' A b := by
  intro hp
  obtain ⟨g, o, hA, hg, hc⟩ := h hp
  exact ⟨g, o, hA, by have := hb.size; omega, fun j hj => (hb.cell (p := ⟨g, o + j, none⟩) hg).trans (hc j hj)⟩
theorem InBytes.conv {w : World} {A : Option Addr} {b : Bs} (h : InBytes w A b) (cap : Nat) : (convert 100 9 (.slice A b.length cap)).run Tryd.prog w = .ok (.string ⟨b.toArray⟩) w := by
  rcases Nat.eq_zero_or_pos b.length with h0 | h0
  · obtain rfl : b = [] := List.eq_nil_of_length_eq_zero h0
    cases A with
    | none =>
      rw [run_convert_bytes_string w 100 9 5 none _ cap Tryd.underlying100 Tryd.underlying5 Tryd.underlying9]
      simp [Conv.bytesToString]
      rfl
    | some a => exact run_convert_bytes_back w 100 9 5 a cap [] Tryd.underlying100 Tryd.underlying5 Tryd.underlying9 (fun j hj => by simp at hj)
  · obtain ⟨g, o, rfl, hg, hc⟩ := h h0
    refine run_convert_bytes_back w 100 9 5 ⟨g, o, none⟩ cap b Tryd.underlying100 Tryd.underlying5 Tryd.underlying9 (fun j hj => ?_)
    rw [← hc j hj]
    unfold Addr.add
    by_cases e : j = 0
    · simp [e]
    · simp [e]

end Go.Proofs.YteccjdclkcipbaaDoor
