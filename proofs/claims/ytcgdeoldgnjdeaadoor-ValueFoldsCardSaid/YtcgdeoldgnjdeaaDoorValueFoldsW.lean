/-
  counterpanelaw02.ValueFolds: the walk.
-/
import Derived.Test.YtcgdeoldgnjdeaaDoorVal8
import Derived.Test.YtcgdeoldgnjdeaaDoorPlainS
namespace Go.Proofs.YtcgdeoldgnjdeaaDoor
open Go.RowKit

theorem up_up (c : UInt8) : up (up c) = up c := by
  by_cases h : isLow c = true
  · have h1 := up_low c h
    have h2 := (isLow_iff c).1 h
    refine up_other _ ?_
    cases hl : isLow (up c)
    · rfl
    · have := (isLow_iff _).1 hl; omega
  · rw [up_other c (by simpa using h), up_other c (by simpa using h)]
theorem pFold_twice (l : Bs) : pFold (pFold l) = pFold l := by
  unfold pFold
  rw [List.map_map]
  congr 1
  funext c
  exact up_up c
theorem pFold_append (a b : Bs) : pFold (a ++ b) = pFold a ++ pFold b := by simp [pFold]
theorem faultNo_fold (l : Bs) : pFaultNo (pFold l) = pFaultNo l := by unfold pFaultNo; rw [pFold_twice]
theorem vText_short (l : Bs) (h : l.length ≤ 255) : vText l = ⟨2, 0, 0, l, false, 0⟩ := if_neg (by omega)
theorem compare_fold (l : Bs) : pCompare ⟨2, 0, 0, l, false, 0⟩ ⟨2, 0, 0, pFold l, false, 0⟩ = 0 := by
  show cmpB (pFold l) (pFold (pFold l)) = 0
  rw [pFold_twice]
  exact cmpB_self _
theorem order_fold (l : Bs) : pOrder ⟨2, 0, 0, pFold l, false, 0⟩ ⟨2, 0, 0, l, false, 0⟩ = 0 := by
  show cmpB (pFold (pFold l)) (pFold l) = 0
  rw [pFold_twice]
  exact cmpB_self _
set_option maxRecDepth 100000 in
set_option maxHeartbeats 6400000 in
theorem valueFolds_any (s t : Bs) (w : World) (ht : Tab w) :
    Calls Tryd.prog 8 #[.string ⟨s.toArray⟩, .string ⟨t.toArray⟩] w fun e w' => e = .returned (.bool true) ∧ Below w.heap.size w w' := by
  have HT := Lib.hid ht
  clear ht
  go_enter Tryd.func8, Tryd.ntmps8
  go_wp2_with fail
  refine (awake02_any _ HT.out).mono ?_
  rintro e w1 ⟨rfl, hb1⟩
  have HB1 := Lib.hid hb1
  have HT1 : Hid (Tab w1) := Lib.hid (HT.out.next hb1)
  clear hb1 HT
  by_cases h1 : 150 < s.length
  · go_wp2_with fail
    refine (awake02_any _ HT1.out).mono ?_
    rintro e w2 ⟨rfl, hb2⟩
    have HB2 : Hid (Below w.heap.size w w2) := Lib.hid (HB1.out.trans (hb2.mono HB1.out.size))
    clear hb2
    go_wp2_with fail
    go_ret
    exact ⟨rfl, HB2.out⟩
  by_cases h2 : 150 < t.length
  · go_wp2_with fail
    refine (awake02_any _ HT1.out).mono ?_
    rintro e w2 ⟨rfl, hb2⟩
    have HB2 : Hid (Below w.heap.size w w2) := Lib.hid (HB1.out.trans (hb2.mono HB1.out.size))
    clear hb2
    go_wp2_with fail
    go_ret
    exact ⟨rfl, HB2.out⟩
  have hfl := pFold_len s
  have HFL := Lib.hid hfl
  have m1 : Hid (s.length ≤ maxLen) := Lib.hid (by unfold maxLen; omega)
  have m2 : Hid (t.length ≤ maxLen) := Lib.hid (by unfold maxLen; omega)
  have m3 : Hid ((s ++ t).length ≤ maxLen) := Lib.hid (by unfold maxLen; rw [List.length_append]; omega)
  have m4 : Hid ((pFold s).length ≤ maxLen) := Lib.hid (by unfold maxLen; omega)
  have E1 := Lib.hid (pFold_twice s)
  have E2 := Lib.hid (pFold_append s t)
  have E3 := Lib.hid (vText_short s (by omega))
  have E4 := Lib.hid (vText_short (pFold s) (by omega))
  have E5 := Lib.hid (compare_fold s)
  have E6 := Lib.hid (order_fold s)
  have E7 := Lib.hid (faultNo_fold s)
  clear hfl
  go_wp2_with fail
  refine (fold_any s _ m1.out).mono ?_
  rintro e w2 ⟨rfl, hb2⟩
  have HB2 : Hid (Below w.heap.size w w2) := Lib.hid (HB1.out.trans (hb2.mono HB1.out.size))
  have HT2 : Hid (Tab w2) := Lib.hid (HT1.out.next hb2)
  clear hb2 HB1 HT1
  have hlen : ((pFold s).length : Int) = (s.length : Int) := by rw [HFL.out]
  have c1 := Lib.hid (fun W => fold_any (pFold s) W m4.out)
  rw [E1.out] at c1
  have c2 := Lib.hid (fun W => fold_any (s ++ t) W m3.out)
  rw [E2.out] at c2
  have c3 := Lib.hid (fun W => fold_any t W m2.out)
  have c4 := Lib.hid (fun W => text_any s W (by omega))
  rw [E3.out] at c4
  have c5 := Lib.hid (fun W => text_any (pFold s) W (by rw [HFL.out]; omega))
  rw [E4.out] at c5
  have c6 := Lib.hid (fun W => compare_any ⟨2, 0, 0, s, false, 0⟩ ⟨2, 0, 0, pFold s, false, 0⟩ W (fit_text _ m1.out) (fit_text _ m4.out))
  rw [E5.out] at c6
  have c7 := Lib.hid (fun W => order_any ⟨2, 0, 0, pFold s, false, 0⟩ ⟨2, 0, 0, s, false, 0⟩ W (fit_text _ m4.out) (fit_text _ m1.out))
  rw [E6.out] at c7
  have c8 := Lib.hid (fun W h => valFaultOf_any s W m1.out h)
  have c9 := Lib.hid (fun W h => valFaultOf_any (pFold s) W m4.out h)
  rw [E7.out] at c9
  have hf1 : (pFold s).length ≤ 150 := by rw [HFL.out]; omega
  have hf2 : (pFold t).length ≤ 150 := by rw [pFold_len]; omega
  have hfn : ((pFaultNo s : Int) == (pFaultNo s : Int)) = true := by simp
  generalize pFaultNo s = fn at *
  clear E1 E2 E3 E4 E5 E6 E7 HFL m1 m2 m3 m4
  generalize pFold s = f at *
  generalize pFold t = g at *
  have hff : (f != f) = false := by simp
  have hfg : ((f ++ g) != (f ++ g)) = false := by simp
  go_wp2_with fail
  refine (c1.out _).mono ?_
  rintro e w3 ⟨rfl, hb3⟩
  have HB3 : Hid (Below w.heap.size w w3) := Lib.hid (HB2.out.trans (hb3.mono HB2.out.size))
  have HT3 : Hid (Tab w3) := Lib.hid (HT2.out.next hb3)
  clear hb3 HB2 HT2
  go_wp2_with fail
  refine (c2.out _).mono ?_
  rintro e w4 ⟨rfl, hb4⟩
  have HB4 : Hid (Below w.heap.size w w4) := Lib.hid (HB3.out.trans (hb4.mono HB3.out.size))
  have HT4 : Hid (Tab w4) := Lib.hid (HT3.out.next hb4)
  clear hb4 HB3 HT3
  go_wp2_with fail
  refine (c3.out _).mono ?_
  rintro e w5 ⟨rfl, hb5⟩
  have HB5 : Hid (Below w.heap.size w w5) := Lib.hid (HB4.out.trans (hb5.mono HB4.out.size))
  have HT5 : Hid (Tab w5) := Lib.hid (HT4.out.next hb5)
  clear hb5 HB4 HT4
  go_wp2_with fail
  refine (c4.out _).mono ?_
  rintro e w6 ⟨rfl, hb6⟩
  have HB6 : Hid (Below w.heap.size w w6) := Lib.hid (HB5.out.trans (hb6.mono HB5.out.size))
  have HT6 : Hid (Tab w6) := Lib.hid (HT5.out.next hb6)
  clear hb6 HB5 HT5
  go_wp2_with fail
  refine (c5.out _).mono ?_
  rintro e w7 ⟨rfl, hb7⟩
  have HB7 : Hid (Below w.heap.size w w7) := Lib.hid (HB6.out.trans (hb7.mono HB6.out.size))
  have HT7 : Hid (Tab w7) := Lib.hid (HT6.out.next hb7)
  clear hb7 HB6 HT6
  have L1 := Lib.hid ((Lies.new w7 41 (valC ⟨2, 0, 0, s, false, 0⟩)).alloc (.cells (valC ⟨2, 0, 0, f, false, 0⟩) 41))
  have L2 : Hid (Lies ((w7.alloc (.cells (valC ⟨2, 0, 0, s, false, 0⟩) 41)).alloc (.cells (valC ⟨2, 0, 0, f, false, 0⟩) 41)) (w7.heap.size + 1) 41 (valC ⟨2, 0, 0, f, false, 0⟩)) := Lib.hid (by have := Lies.new (w7.alloc (.cells (valC ⟨2, 0, 0, s, false, 0⟩) 41)) 41 (valC ⟨2, 0, 0, f, false, 0⟩); simpa using this)
  have HB8 := Lib.hid ((HB7.out.alloc HB7.out.size (.cells (valC ⟨2, 0, 0, s, false, 0⟩) 41)).alloc (by have := HB7.out.size; simp; omega) (.cells (valC ⟨2, 0, 0, f, false, 0⟩) 41))
  have HT8 := Lib.hid ((HT7.out.alloc (.cells (valC ⟨2, 0, 0, s, false, 0⟩) 41)).alloc (.cells (valC ⟨2, 0, 0, f, false, 0⟩) 41))
  clear HB7 HT7
  go_wp2_with fail
  refine (c6.out _).mono ?_
  rintro e w8 ⟨rfl, hb8⟩
  have HB9 : Hid (Below w.heap.size w w8) := Lib.hid (HB8.out.trans (hb8.mono HB8.out.size))
  have HT9 : Hid (Tab w8) := Lib.hid (HT8.out.next hb8)
  obtain ⟨p0, p1, p2, p3, p4, p5⟩ := (L1.out.next hb8).seen
  obtain ⟨q0, q1, q2, q3, q4, q5⟩ := (L2.out.next hb8).seen
  dsimp only at p0 p1 p2 p3 p4 p5 q0 q1 q2 q3 q4 q5
  clear hb8 HB8 HT8 L1 L2
  go_wp2_with fail
  refine (c7.out _).mono ?_
  rintro e w9 ⟨rfl, hb9⟩
  have HB10 : Hid (Below w.heap.size w w9) := Lib.hid (HB9.out.trans (hb9.mono HB9.out.size))
  have HT10 : Hid (Tab w9) := Lib.hid (HT9.out.next hb9)
  clear hb9 HB9 HT9 p0 p1 p2 p3 p4 p5 q0 q1 q2 q3 q4 q5
  go_wp2_with fail
  refine (c8.out _ HT10.out).mono ?_
  rintro e w10 ⟨rfl, hb10⟩
  have HB11 : Hid (Below w.heap.size w w10) := Lib.hid (HB10.out.trans (hb10.mono HB10.out.size))
  have HT11 : Hid (Tab w10) := Lib.hid (HT10.out.next hb10)
  clear hb10 HB10 HT10
  go_wp2_with fail
  refine (c9.out _ HT11.out).mono ?_
  rintro e w11 ⟨rfl, hb11⟩
  have HB12 : Hid (Below w.heap.size w w11) := Lib.hid (HB11.out.trans (hb11.mono HB11.out.size))
  clear hb11 HB11 HT11
  go_wp2_with fail
  go_ret
  exact ⟨rfl, HB12.out⟩
end Go.Proofs.YtcgdeoldgnjdeaaDoor
