/-
  counterpaneref01.Round of a right number, to at most 30 places: what it returns.
-/
import Derived.Test.YteccjdclkcipbaaDoorPlMi
import Derived.Test.YteccjdclkcipbaaDoorRefA3
import Derived.Test.YteccjdclkcipbaaDoorRefA6
import Derived.Test.YteccjdclkcipbaaDoorNum11
namespace Go.Proofs.YteccjdclkcipbaaDoor
open Go.RowKit

set_option maxRecDepth 100000 in
set_option maxHeartbeats 3200000 in
theorem rRound_easy (m e : Int) (k : Nat) (w : World) (hk : k ≤ 30) (hR : pRight m e = true) (h5 : -(k : Int) ≤ e) :
    Calls Tryd.prog 30 #[numV m e, .int .i64 k] w fun x w' => x = .returned (numV (nRound m e k).1 (nRound m e k).2) ∧ Below w.heap.size w w' := by
  obtain ⟨a1, a2⟩ := rb hR
  have C := Lib.hid (fun W => rRight_any m e W (by omega) (by omega))
  rw [hR] at C
  have T0 : Hid (NumIn w m e ((w.alloc (.cells #[.int .i64 m, .int .i64 e] 23)).alloc (.cells #[.int .i64 0, .int .i64 0] 23))) := Lib.hid ((NumIn.start w m e).next ((Below.refl _ _).alloc (Nat.le_refl _) _))
  have HL : Hid (Lies ((w.alloc (.cells #[.int .i64 m, .int .i64 e] 23)).alloc (.cells #[.int .i64 0, .int .i64 0] 23)) (w.heap.size + 1) 23 #[.int .i64 0, .int .i64 0]) := Lib.hid (by have := Lies.new (w.alloc (.cells #[.int .i64 m, .int .i64 e] 23)) 23 #[.int .i64 0, .int .i64 0]; simpa using this)
  have HD : Hid (nRound m e k = (m, e)) := Lib.hid (by unfold nRound; rw [if_pos (.inr h5)])
  generalize nRound m e k = r at *
  obtain ⟨z0, z1, z2, z3⟩ := T0.out
  clear hR
  go_enter Tryd.func30, Tryd.ntmps30
  go_wp2_with fail
  refine (C.out _).mono ?_
  rintro x w1 ⟨rfl, hb⟩
  have HL1 := Lib.hid (Lies.below HL.out hb)
  have T1 := Lib.hid (T0.out.next hb)
  clear hb HL T0 C z0 z1 z2 z3
  obtain ⟨g0, g1, g2, g3⟩ := T1.out
  have q0 := HL1.out.cell 0
  have q1 := HL1.out.cell 1
  have f0 := HL1.out.frozen 0
  have f1 := HL1.out.frozen 1
  have hlt := HL1.out.lt
  have HB1 := Lib.hid g3
  clear HL1 T1 g3
  simp only [List.getElem?_toArray, List.getElem?_cons_zero, List.getElem?_cons_succ] at q0 q1
  have fin : ∀ w2, w2 = (w1.setCell ⟨w.heap.size + 1, 0, none⟩ (.int .i64 m)).setCell ⟨w.heap.size + 1, 1, none⟩ (.int .i64 e) → Hid (Below w.heap.size w w2) := fun w2 h => Lib.hid (h ▸ ((HB1.out.setCell (p := ⟨w.heap.size + 1, 0, none⟩) (Nat.le_succ _) _).setCell (p := ⟨w.heap.size + 1, 1, none⟩) (Nat.le_succ _) _))
  go_wp2_with fail
  refine bodyPost_ret (v := .agg #[.int .i64 m, .int .i64 e]) (by simp [results, Tryd.results30, go_sem, q0, q1]) rfl ?_
  exact ⟨by rw [HD.out], (fin _ rfl).out⟩
theorem own_islice {w : World} {base : Nat} {v : Value} {L : List Nat} (h : Own w base v L) : ∃ A c, v = .slice A L.length c ∧ ISl w 0 A c L := by
  rcases Nat.eq_zero_or_pos L.length with z | z
  · rcases h.2 with ⟨rfl, _⟩ | ⟨g, cap, cur, rfl, hg, hh, hnc, hcm, _⟩
    · exact ⟨none, 0, by rw [z], by omega, by decide, fun h => by omega⟩
    · exact ⟨_, cap, rfl, hnc, hcm, fun h => by omega⟩
  · obtain ⟨g, cap, e, hs, _⟩ := own_isl (base := 0) h (Nat.zero_le _) z
    exact ⟨_, cap, e, hs⟩
set_option maxRecDepth 100000 in
set_option maxHeartbeats 3200000 in
theorem rRound_past (m e : Int) (k : Nat) (w : World) (hk : k ≤ 30) (hR : pRight m e = true) (j : Nat) (hj : -(k : Int) - e = j) (hl : (dl m.natAbs).length < j) :
    Calls Tryd.prog 30 #[numV m e, .int .i64 k] w fun x w' => x = .returned (numV (nRound m e k).1 (nRound m e k).2) ∧ Below w.heap.size w w' := by
  obtain ⟨a1, a2⟩ := rb hR
  have C := Lib.hid (fun W => rRight_any m e W (by omega) (by omega))
  rw [hR] at C
  have CO := Lib.hid (fun W => rOf_any m e W (by omega) (by omega))
  have T0 : Hid (NumIn w m e ((w.alloc (.cells #[.int .i64 m, .int .i64 e] 23)).alloc (.cells #[.int .i64 0, .int .i64 0] 23))) := Lib.hid ((NumIn.start w m e).next ((Below.refl _ _).alloc (Nat.le_refl _) _))
  have HL : Hid (Lies ((w.alloc (.cells #[.int .i64 m, .int .i64 e] 23)).alloc (.cells #[.int .i64 0, .int .i64 0] 23)) (w.heap.size + 1) 23 #[.int .i64 0, .int .i64 0]) := Lib.hid (by have := Lies.new (w.alloc (.cells #[.int .i64 m, .int .i64 e] 23)) 23 #[.int .i64 0, .int .i64 0]; simpa using this)
  have HD : Hid (nRound m e k = (0, 0)) := Lib.hid (round_past m e k hR hk j hj hl)
  have h5 : ¬ -(k : Int) ≤ e := by omega
  have he : -1000 ≤ e ∧ e ≤ 1000 := by
    by_cases z : m = 0
    · unfold pRight at hR; rw [if_pos z] at hR; simp at hR; omega
    · have := pRight_of hR z; omega
  obtain ⟨e1, e2⟩ := he
  generalize nRound m e k = r at *
  unfold OfPost at CO
  generalize dl m.natAbs = L at *
  have hgt : (L.length : Int) < -(k : Int) - e := by omega
  obtain ⟨z0, z1, z2, z3⟩ := T0.out
  clear hR hj
  go_enter Tryd.func30, Tryd.ntmps30
  go_wp2_with fail
  refine (C.out _).mono ?_
  rintro x w1 ⟨rfl, hb⟩
  have HL1 := Lib.hid (Lies.below HL.out hb)
  have T1 := Lib.hid (T0.out.next hb)
  clear hb HL T0 C z0 z1 z2 z3
  obtain ⟨g0, g1, g2, g3⟩ := T1.out
  go_wp2_with fail
  refine (CO.out _).mono ?_
  rintro x w2 ⟨v, rfl, hO, hb⟩
  obtain ⟨A, c, rfl, -⟩ := own_islice hO
  have hbn : Below w2.heap.size w2 (w2.alloc (.cells #[.bool (decide (m < 0)), .slice A L.length c, .int .i64 e] 89)) := (Below.refl _ _).alloc (Nat.le_refl _) _
  have HL2 := Lib.hid (Lies.below (Lies.below HL1.out hb) hbn)
  have T2 := Lib.hid ((T1.out.next hb).next hbn)
  have HX : Hid (Lies (w2.alloc (.cells #[.bool (decide (m < 0)), .slice A L.length c, .int .i64 e] 89)) w2.heap.size 89 #[.bool (decide (m < 0)), .slice A L.length c, .int .i64 e]) := Lib.hid (Lies.new w2 _ _)
  clear hO hb hbn HL1 T1 CO g0 g1 g2 g3
  go_upto_region 6 with fail
  generalize hW : w2.alloc (.cells #[.bool (decide (m < 0)), .slice A L.length c, .int .i64 e] 89) = W at *
  generalize w2.heap.size = q at *
  clear hW
  obtain ⟨g0, g1, g2, g3⟩ := T2.out
  have q0 := HL2.out.cell 0
  have q1 := HL2.out.cell 1
  have f0 := HL2.out.frozen 0
  have f1 := HL2.out.frozen 1
  have hlt := HL2.out.lt
  have y0 := HX.out.cell 0
  have y1 := HX.out.cell 1
  have y2 := HX.out.cell 2
  have HB1 := Lib.hid g3
  clear HL2 T2 g3 HX
  simp only [List.getElem?_toArray, List.getElem?_cons_zero, List.getElem?_cons_succ] at q0 q1 y0 y1 y2
  have fin : ∀ w2, w2 = (W.setCell ⟨w.heap.size + 1, 0, none⟩ (.int .i64 0)).setCell ⟨w.heap.size + 1, 1, none⟩ (.int .i64 0) → Hid (Below w.heap.size w w2) := fun w2 h => Lib.hid (h ▸ ((HB1.out.setCell (p := ⟨w.heap.size + 1, 0, none⟩) (Nat.le_succ _) _).setCell (p := ⟨w.heap.size + 1, 1, none⟩) (Nat.le_succ _) _))
  go_wp2_with fail
  refine bodyPost_ret (v := .agg #[.int .i64 0, .int .i64 0]) (by simp [results, Tryd.results30, go_sem, q0, q1]) rfl ?_
  exact ⟨by rw [HD.out], (fin _ rfl).out⟩
end Go.Proofs.YteccjdclkcipbaaDoor
