/-
  counterpaneref01.Of, Right: what they return.
-/
import Derived.Test.YtcgdeoldgnjdeaaDoorRefA1
import Derived.Test.YtcgdeoldgnjdeaaDoorNum1
namespace Go.Proofs.YtcgdeoldgnjdeaaDoor
open Go.RowKit

/-- what Of has on its way: the number in its box, the result's block -/
def OfIn (w : World) (m e : Int) (w' : World) : Prop :=
  w.heap.size + 1 < w'.heap.size ∧ w'.cell? ⟨w.heap.size, 0, none⟩ = some (.int .i64 m) ∧ w'.cell? ⟨w.heap.size, 1, none⟩ = some (.int .i64 e) ∧
  w'.cell? ⟨w.heap.size + 1, 0, none⟩ = some (.bool false) ∧ w'.cell? ⟨w.heap.size + 1, 1, none⟩ = some (.slice none 0 0) ∧ w'.cell? ⟨w.heap.size + 1, 2, none⟩ = some (.int .i64 0) ∧
  w'.frozen? ⟨w.heap.size + 1, 0, none⟩ = false ∧ w'.frozen? ⟨w.heap.size + 1, 1, none⟩ = false ∧ w'.frozen? ⟨w.heap.size + 1, 2, none⟩ = false ∧ Below w.heap.size w w'
theorem OfIn.start (w : World) (m e : Int) : OfIn w m e ((w.alloc (.cells #[.int .i64 m, .int .i64 e] 39)).alloc (.cells #[.bool false, .slice none 0 0, .int .i64 0] 124)) :=
  ⟨by simp, by simp, by simp, by simp, by simp, by simp, by simp, by simp, by simp, ((Below.refl _ w).alloc (Nat.le_refl _) _).alloc (by simp) _⟩
theorem OfIn.next {w w' w'' : World} {m e : Int} (h : OfIn w m e w') (hb : Below w'.heap.size w' w'') : OfIn w m e w'' := by
  obtain ⟨h1, h2, h3, h4, h5, h6, h7, h8, h9, h10⟩ := h
  have hs := hb.size
  exact ⟨by omega, (hb.cell (p := ⟨_, _, none⟩) (by show w.heap.size < _; omega)).trans h2, (hb.cell (p := ⟨_, _, none⟩) (by show w.heap.size < _; omega)).trans h3,
    (hb.cell (p := ⟨_, _, none⟩) (by show w.heap.size + 1 < _; omega)).trans h4, (hb.cell (p := ⟨_, _, none⟩) (by show w.heap.size + 1 < _; omega)).trans h5, (hb.cell (p := ⟨_, _, none⟩) (by show w.heap.size + 1 < _; omega)).trans h6,
    (hb.frozen (p := ⟨_, _, none⟩) (by show w.heap.size + 1 < _; omega)).trans h7, (hb.frozen (p := ⟨_, _, none⟩) (by show w.heap.size + 1 < _; omega)).trans h8, (hb.frozen (p := ⟨_, _, none⟩) (by show w.heap.size + 1 < _; omega)).trans h9,
    h10.trans (hb.mono h10.size)⟩
theorem OfIn.drew {w w' : World} {m e : Int} (h : OfIn w m e w') : OfIn w m e w'.drew := h.next (Below.refl _ _).drew
theorem Own.mono {w : World} {base B : Nat} {v : Value} {L : List Nat} (h : Own w base v L) (hB : B ≤ base) : Own w B v L := by
  obtain ⟨h1, h2⟩ := h
  refine ⟨h1, ?_⟩
  rcases h2 with h2 | ⟨g, cap, cur, hv, hg, r⟩
  · exact .inl h2
  · exact .inr ⟨g, cap, cur, hv, by omega, r⟩
theorem Own.put {w : World} {base : Nat} {v : Value} {L : List Nat} (h : Own w base v L) {a : Addr} (ha : a.block < base) (u : Value) : Own (w.setCell a u) base v L := ownsRow_setCell_below h ha u
/-- what Of leaves -/
def OfPost (m e : Int) (w : World) (x : Ending) (w' : World) : Prop := ∃ v, x = .returned (.agg #[.bool (decide (m < 0)), v, .int .i64 e]) ∧ Own w' w.heap.size v (dl m.natAbs) ∧ Below w.heap.size w w'
set_option maxRecDepth 100000 in
set_option maxHeartbeats 1600000 in
theorem rOf_any (m e : Int) (w : World) (h1 : -9223372036854775808 ≤ m) (h2 : m ≤ 9223372036854775807) :
    Calls Tryd.prog 117 #[numV m e] w fun x w' => OfPost m e w x w' := by
  have T0 := Lib.hid (OfIn.start w m e)
  have HD := Lib.hid (fun W => digits_any m W h1 h2)
  clear h1 h2
  go_enter Tryd.func117, Tryd.ntmps117
  go_wp2_with fail
  have T1 := T0.out.drew
  clear T0
  obtain ⟨g0, g1, g2, g3, g4, g5, g6, g7, g8, g9⟩ := id T1
  go_region_law (have _ := T1; go_simp; go_at_call 142; refine (HD.out _).mono ?_; rintro x w1 ⟨v, rfl, hown, hb⟩; have HO := Lib.hid (Own.mono hown (B := w.heap.size + 2) (by show w.heap.size + 1 < _; exact g0)); obtain ⟨A, c, rfl, -, -⟩ := hown.slice; clear hown; have T2 := OfIn.next T1 hb; clear hb T1 g0 g1 g2 g3 g4 g5 g6 g7 g8 g9; obtain ⟨g0, g1, g2, g3, g4, g5, g6, g7, g8, g9⟩ := id T2)
  all_goals go_wp2_with fail
  all_goals refine bodyPost_ret (v := .agg #[.bool (decide (m < 0)), .slice A (dl m.natAbs).length c, .int .i64 e]) (by simp [results, Tryd.results117, go_sem, g3, g4, g5]) rfl ?_
  all_goals refine ⟨_, rfl, ?_, ((g9.setCell (p := ⟨w.heap.size + 1, 0, none⟩) (by show w.heap.size ≤ w.heap.size + 1; omega) _).setCell (p := ⟨w.heap.size + 1, 1, none⟩) (by show w.heap.size ≤ w.heap.size + 1; omega) _).setCell (p := ⟨w.heap.size + 1, 2, none⟩) (by show w.heap.size ≤ w.heap.size + 1; omega) _⟩
  all_goals exact (((HO.out.put (a := ⟨w.heap.size + 1, 0, none⟩) (by show w.heap.size + 1 < w.heap.size + 2; omega) _).put (a := ⟨w.heap.size + 1, 1, none⟩) (by show w.heap.size + 1 < w.heap.size + 2; omega) _).put (a := ⟨w.heap.size + 1, 2, none⟩) (by show w.heap.size + 1 < w.heap.size + 2; omega) _).mono (by omega)
end Go.Proofs.YtcgdeoldgnjdeaaDoor
