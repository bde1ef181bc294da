/-
  lex texts: what a text in quotes is; counterpanelaw05.LexTexts: the walk.
-/
import Derived.Test.YtpdaloohgfnbhaaGreatDoorLex8
import Derived.Test.YtpdaloohgfnbhaaGreatDoorVal2
import Derived.Test.YtpdaloohgfnbhaaGreatDoorPl1
namespace Go.Proofs.YtpdaloohgfnbhaaGreatDoor
open Go.RowKit

def ex1 : Bs := [34, 97, 34, 34, 98, 34, 60, 61, 32, 36, 65, 49]
def ex2 : Bs := [49, 46, 120]
theorem pLex_ex1 : pLex ex1 = .ok [⟨2, [97, 34, 98], 0⟩, ⟨5, [60, 61], 6⟩, ⟨4, [36, 65, 49], 9⟩] := by kernel_rfl
theorem pLex_ex2 : pLex ex2 = .error 1 := by kernel_rfl
/-- bytes that came in: a slice of them -/
def InBytes (w : World) (A : Option Addr) (b : Bs) : Prop := 0 < b.length → ∃ g o, A = some ⟨g, o, none⟩ ∧ g < w.heap.size ∧ ∀ j (h : j < b.length), w.cell? ⟨g, o + j, none⟩ = some (.int .u8 (b[j].toNat : Int))
theorem InBytes.next {w w' : World} {A : Option Addr} {b : Bs} (h : InBytes w A b) (hb : Below w.heap.size w w') : InBytes w' A b := by
  intro hp
  obtain ⟨g, o, hA, hg, hc⟩ := h hp
  exact ⟨g, o, hA, by have := hb.size; omega, fun j hj => (hb.cell (p := ⟨g, o + j, none⟩) hg).trans (hc j hj)⟩
theorem InBytes.conv {w : World} {A : Option Addr} {b : Bs} (h : InBytes w A b) (cap : Nat) : (convert 54 9 (.slice A b.length cap)).run Tryz.prog w = .ok (.string ⟨b.toArray⟩) w := by
  rcases Nat.eq_zero_or_pos b.length with h0 | h0
  · obtain rfl : b = [] := List.eq_nil_of_length_eq_zero h0
    cases A with
    | none =>
      rw [run_convert_bytes_string w 54 9 5 none _ cap Tryz.underlying54 Tryz.underlying5 Tryz.underlying9]
      simp [Conv.bytesToString]
      rfl
    | some a => exact run_convert_bytes_back w 54 9 5 a cap [] Tryz.underlying54 Tryz.underlying5 Tryz.underlying9 (fun j hj => by simp at hj)
  · obtain ⟨g, o, rfl, hg, hc⟩ := h h0
    refine run_convert_bytes_back w 54 9 5 ⟨g, o, none⟩ cap b Tryz.underlying54 Tryz.underlying5 Tryz.underlying9 (fun j hj => ?_)
    rw [← hc j hj]
    unfold Addr.add
    by_cases e : j = 0
    · simp [e]
    · simp [e]

end Go.Proofs.YtpdaloohgfnbhaaGreatDoor
