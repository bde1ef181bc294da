/-
  The document's example, as counterpanelaw05.awake asks for it: it returns true.
-/
import Derived.Test.YtcgdeoldgnjdeaaDoorLex8
namespace Go.Proofs.YtcgdeoldgnjdeaaDoor
open Go.RowKit

def ex1 : Bs := [34, 97, 34, 34, 98, 34, 60, 61, 32, 36, 65, 49]
def ex2 : Bs := [49, 46, 120]
theorem pLex_ex1 : pLex ex1 = .ok [⟨2, [97, 34, 98], 0⟩, ⟨5, [60, 61], 6⟩, ⟨4, [36, 65, 49], 9⟩] := by kernel_rfl
theorem pLex_ex2 : pLex ex2 = .error 1 := by kernel_rfl
theorem lex_ok (l : Bs) (ts : List Tok) (w : World) (hs : l.length ≤ 1000000) (ht : Tab w) (h : pLex l = .ok ts) :
    Calls Tryd.prog 19 #[.string ⟨l.toArray⟩] w fun e w' => ∃ g cap, e = .returned (.tuple #[.slice (some ⟨g, 0, none⟩) (ts.length + 1) cap, .int .i64 0, .int .i64 0]) ∧ w'.ownsRow w.heap.size 34 3 (.slice (some ⟨g, 0, none⟩) (ts.length + 1) cap) (ts.length + 1) (rowCells (ts ++ [endTok l.length])) ∧ Below w.heap.size w w' := by
  refine (lex_any l w hs ht).mono ?_
  intro e w' hp
  rw [h] at hp
  obtain ⟨v, rfl, hown, hb⟩ := hp
  rcases hown.2 with ⟨_, h0⟩ | ⟨g, cap, cur, rfl, _⟩
  · omega
  · exact ⟨g, cap, rfl, hown, hb⟩
theorem lex_bad (l : Bs) (k : Nat) (w : World) (hs : l.length ≤ 1000000) (ht : Tab w) (h : pLex l = .error k) :
    Calls Tryd.prog 19 #[.string ⟨l.toArray⟩] w fun e w' => e = .returned (.tuple #[.slice none 0 0, .int .i64 k, .int .i64 7]) ∧ Below w.heap.size w w' := by
  refine (lex_any l w hs ht).mono ?_
  intro e w' hp
  rw [h] at hp
  exact hp

set_option maxRecDepth 100000 in
set_option maxHeartbeats 1600000 in
theorem awake_any (w : World) (ht : Tab w) :
    Calls Tryd.prog 18 #[] w fun e w' => e = .returned (.bool true) ∧ Below w.heap.size w w' := by
  have HT := Lib.hid ht
  clear ht
  go_enter Tryd.func18, Tryd.ntmps18
  go_wp2_with fail
  refine (lex_ok ex1 _ _ (by decide) HT.out pLex_ex1).mono ?_
  rintro e w1 ⟨g, cap, rfl, hown, hb⟩
  have hg := (hown.lt g rfl).2
  have HB := Lib.hid hb
  have HO := Lib.hid hown
  have HT2 : Hid (Tab w1) := Lib.hid (HT.out.next hb)
  clear hown hb
  go_wp2_with fail
  refine (lex_bad ex2 _ _ (by decide) HT2.out pLex_ex2).mono ?_
  rintro e w2 ⟨rfl, hb2⟩
  have HO2 := Lib.hid (own_next hb2 HO.out)
  have HB2 : Hid (Below w.heap.size w w2) := Lib.hid (HB.out.trans (hb2.mono HB.out.size))
  clear hb2 HO
  have c0 : w2.cell? ⟨g, 0, none⟩ = some (.int .i64 2) := (HO2.out.cellAt 0 (by decide)).trans rfl
  have c1 : w2.cell? ⟨g, 1, none⟩ = some (.string ⟨#[97, 34, 98]⟩) := (HO2.out.cellAt 1 (by decide)).trans rfl
  have c6 : w2.cell? ⟨g, 6, none⟩ = some (.int .i64 4) := (HO2.out.cellAt 6 (by decide)).trans rfl
  have c8 : w2.cell? ⟨g, 8, none⟩ = some (.int .i64 9) := (HO2.out.cellAt 8 (by decide)).trans rfl
  have c9 : w2.cell? ⟨g, 9, none⟩ = some (.int .i64 0) := (HO2.out.cellAt 9 (by decide)).trans rfl
  go_wp2_with fail
  go_ret
  exact ⟨rfl, HB2.out⟩
end Go.Proofs.YtcgdeoldgnjdeaaDoor
