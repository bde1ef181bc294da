/-
  counterpanelaw02.ValueShown: the walk.
-/
import Derived.Test.YtcgdeoldgnjdeaaDoorShownP
import Derived.Test.YtcgdeoldgnjdeaaDoorVal8
import Derived.Test.YtcgdeoldgnjdeaaDoorVal9
import Derived.Test.YtcgdeoldgnjdeaaDoorRefB3
namespace Go.Proofs.YtcgdeoldgnjdeaaDoor
open Go.RowKit

theorem show_len (v : Val) (hR : vRight v = true) (h0 : v.kind ≠ 0) (h2 : v.kind ≠ 2) : (vShow v).length ≤ 1000000 := by
  rcases kinds_right' hR with h | h | h | h | h
  · exact absurd h h0
  · have k := vRight_num v h
    rw [hR] at k
    have k1 := (Bool.and_eq_true_iff.1 k.symm).1
    have hs : vShow v = nText v.mant v.exp := by
      unfold vShow vToText
      rw [if_neg (by omega), if_pos h]
    rw [hs]
    rcases Nat.lt_or_ge 255 (nText v.mant v.exp).length with hl | hl
    · have hp := parse_text _ _ k1
      unfold pParse at hp
      rw [if_pos hl] at hp
      cases hp
    · omega
  · exact absurd h h2
  · have hs : vShow v = if v.truth then yesB else noB := by
      unfold vShow vToText
      rw [if_neg (by omega), if_neg (by omega), if_neg (by omega), if_pos h]
    rw [hs]
    split <;> decide
  · have hs : vShow v = pFaultText v.fault := by
      unfold vShow
      rw [if_pos h]
    rw [hs]
    by_cases hf : 1 ≤ v.fault ∧ v.fault ≤ 9
    · have := (read_fault _ hf.1 hf.2).2.2.2
      omega
    · have : pFaultText v.fault = [] := if_neg hf
      rw [this]
      decide
set_option maxRecDepth 100000 in
set_option maxHeartbeats 12800000 in
theorem valueShown_any (a : Val) (f : Int) (w : World) (ht : Tab w) (hp : PowTab w) (a1 : -9223372036854775808 ≤ a.mant) (a2 : a.mant ≤ 9223372036854775807) (a3 : a.text.length ≤ maxLen) :
    Calls Tryd.prog 15 #[valV a, .int .i64 f] w fun e w' => e = .returned (.bool true) ∧ Below w.heap.size w w' := by
  have T0 := Lib.hid (ValIn.start w a)
  have HT0 : Hid (Tab (w.alloc (.cells (valC a) 41))) := Lib.hid (ht.alloc _)
  have HP0 : Hid (PowTab (w.alloc (.cells (valC a) 41))) := Lib.hid (hp.next ((Below.refl _ w).alloc (Nat.le_refl _) _))
  have Hf1 := Lib.hid (fun W => few_any a W a3)
  have HrR := Lib.hid (fun W => rvRight_any a W a1 a2 a3)
  clear ht hp
  go_enter Tryd.func15, Tryd.ntmps15
  go_wp2_with fail
  refine (awake02_any _ HT0.out).mono ?_
  rintro e w1 ⟨rfl, hb⟩
  have T1 := Lib.hid (T0.out.next hb)
  have HT1 := Lib.hid (HT0.out.next hb)
  have HP1 := Lib.hid (HP0.out.next hb)
  clear hb T0 HT0 HP0
  obtain ⟨g0, g1, g2, g3, g4, g5, g6, g7⟩ := T1.out
  go_wp2_with fail
  refine (Hf1.out _).mono ?_
  rintro e w2 ⟨rfl, hb⟩
  have T2 := Lib.hid (T1.out.next hb)
  have HT2 := Lib.hid (HT1.out.next hb)
  have HP2 := Lib.hid (HP1.out.next hb)
  clear hb T1 HT1 HP1
  clear g0 g1 g2 g3 g4 g5 g6 g7
  cases hq : decide (a.text.length ≤ 300)
  · go_wp2_with fail
    refine (awake02_any _ HT2.out).mono ?_
    rintro e wz ⟨rfl, hbz⟩
    have HBz : Hid (Below w.heap.size w wz) := Lib.hid (T2.out.2.2.2.2.2.2.2.trans (hbz.mono T2.out.2.2.2.2.2.2.2.size))
    clear hbz
    go_wp2_with fail
    go_ret
    exact ⟨rfl, HBz.out⟩
  clear hq Hf1
  obtain ⟨g0, g1, g2, g3, g4, g5, g6, g7⟩ := T2.out
  go_wp2_with fail
  refine (HrR.out _).mono ?_
  rintro e w3 ⟨rfl, hb⟩
  have T3 := Lib.hid (T2.out.next hb)
  have HT3 := Lib.hid (HT2.out.next hb)
  have HP3 := Lib.hid (HP2.out.next hb)
  clear hb T2 HT2 HP2
  clear g0 g1 g2 g3 g4 g5 g6 g7
  cases hR : vRight a
  · go_wp2_with fail
    refine (awake02_any _ HT3.out).mono ?_
    rintro e wz ⟨rfl, hbz⟩
    have HBz : Hid (Below w.heap.size w wz) := Lib.hid (T3.out.2.2.2.2.2.2.2.trans (hbz.mono T3.out.2.2.2.2.2.2.2.size))
    clear hbz
    go_wp2_with fail
    go_ret
    exact ⟨rfl, HBz.out⟩
  clear HrR
  go_wp2_with fail
  refine (faultText_any f _ HT3.out).mono ?_
  rintro e w4 ⟨rfl, rfl⟩
  obtain ⟨s, hs⟩ : ∃ s, pFaultText f = s := ⟨_, rfl⟩
  rw [hs]
  have Hs := Lib.hid hs
  clear hs
  go_upto_region 4 with fail
  go_cut [46] (fun v wx => v = .bool false ∧ Hid (ValIn w a wx) ∧ Hid (Tab wx) ∧ Hid (PowTab wx))
  case first =>
    by_cases hf : 1 ≤ f ∧ f ≤ 9
    · obtain rfl := Hs.out
      clear Hs
      obtain ⟨q1, q2, q3, q4⟩ := read_fault f hf.1 hf.2
      have n1 : decide (f < 1) = false := decide_eq_false (by omega)
      have n2 : decide (9 < f) = false := decide_eq_false (by omega)
      have C1 := Lib.hid (fun W (h : Tab W) => valFaultOf_any (pFaultText f) W (by unfold maxLen; omega) h)
      have C2 := Lib.hid (fun W => bad_any f W)
      have hv : vShow (vBad f) = pFaultText f := by
        unfold vShow vBad
        rw [if_pos rfl, if_neg (by omega)]
      have C3 := Lib.hid (fun W (h : Tab W) (h' : PowTab W) => show_any (vBad f) W h h' (by show (-9223372036854775808 : Int) ≤ 0; decide) (by show (0 : Int) ≤ 9223372036854775807; decide) (fun h => by cases h))
      rw [hv] at C3
      rw [q2] at C1
      clear q1 q2 hv
      generalize pFaultText f = s at *
      generalize vBad f = vb at *
      have hse : (s == []) = false := by rw [beq_eq_false_iff_ne]; exact q3
      have hff : (f != f) = false := by simp
      obtain ⟨c, t, rfl⟩ : ∃ c t, s = c :: t := by cases s with | nil => exact absurd rfl q3 | cons c t => exact ⟨c, t, rfl⟩
      obtain ⟨f1, f2⟩ := hf
      clear q3 a1 a2 a3 hR
      go_wp2_with fail
      refine (C1.out _ HT3.out).mono ?_
      rintro e w5 ⟨rfl, hb⟩
      have T5 := Lib.hid (T3.out.next hb)
      have HT5 := Lib.hid (HT3.out.next hb)
      have HP5 := Lib.hid (HP3.out.next hb)
      clear hb T3 HT3 HP3
      go_wp2_with fail
      refine (C2.out _).mono ?_
      rintro e w6 ⟨rfl, hb⟩
      have T6 := Lib.hid (T5.out.next hb)
      have HT6 := Lib.hid (HT5.out.next hb)
      have HP6 := Lib.hid (HP5.out.next hb)
      clear hb T5 HT5 HP5
      go_wp2_with fail
      refine (C3.out _ HT6.out HP6.out).mono ?_
      rintro e w7 ⟨rfl, hb⟩
      have T7 := Lib.hid (T6.out.next hb)
      have HT7 := Lib.hid (HT6.out.next hb)
      have HP7 := Lib.hid (HP6.out.next hb)
      clear hb T6 HT6 HP6
      go_wp2_with fail
      go_meet
      exact ⟨rfl, T7, HT7, HP7⟩
    · have hs : s = [] := Hs.out.symm.trans (if_neg hf)
      subst hs
      clear Hs
      by_cases hl : f < 1
      · have n1 : decide (f < 1) = true := decide_eq_true hl
        go_wp2_with fail
        go_meet
        refine ⟨?_, T3, HT3, HP3⟩
        rfl
      · have hg : 9 < f := by omega
        have n1 : decide (f < 1) = false := decide_eq_false hl
        have n2 : decide (9 < f) = true := decide_eq_true hg
        go_wp2_with fail
        go_meet
        refine ⟨?_, T3, HT3, HP3⟩
        rfl
  case rest =>
    obtain ⟨rfl, T8, HT8, HP8⟩ := hcut
    clear T3 HT3 HP3 Hs
    by_cases k0 : a.kind = 0
    · have e0 : (a.kind == 0) = true := by rw [beq_iff_eq]; exact k0
      have T9 := T8.out.drew
      obtain ⟨g0, g1, g2, g3, g4, g5, g6, g7⟩ := id T9
      clear k0 a1 a2 a3 hR
      go_wp2_with fail
      first | (go_region_law (fail)) | fail
      all_goals go_wp2_with fail
      all_goals go_ret
      all_goals exact ⟨rfl, g7⟩
    have e0 : (a.kind == 0) = false := by rw [beq_eq_false_iff_ne]; exact k0
    by_cases k2 : a.kind = 2
    · have e2 : (a.kind == 2) = true := by rw [beq_iff_eq]; exact k2
      have T9 := T8.out.drew
      obtain ⟨g0, g1, g2, g3, g4, g5, g6, g7⟩ := id T9
      clear k0 k2 a1 a2 a3 hR
      go_wp2_with fail
      first | (go_region_law (fail)) | fail
      all_goals go_wp2_with fail
      all_goals go_ret
      all_goals exact ⟨rfl, g7⟩
    have e2 : (a.kind == 2) = false := by rw [beq_eq_false_iff_ne]; exact k2
    have C1 := Lib.hid (fun W (h : Tab W) (h' : PowTab W) => show_any a W h h' a1 a2 (fun h => (Bool.and_eq_true_iff.1 ((vRight_num a h).symm.trans hR)).1))
    have C2 := Lib.hid (fun W (h : Tab W) => read_any (vShow a) W (show_len a hR k0 k2) h)
    rw [read_show a hR k0 k2] at C2
    have C3 := Lib.hid (fun W => rSame_any a a W)
    rw [vSame_self] at C3
    clear a1 a2 a3 hR k0 k2
    generalize vShow a = sh at *
    have HT9 : Hid (Tab wc.drew) := HT8
    have HP9 : Hid (PowTab wc.drew) := HP8
    go_wp2_with fail
    go_region_held3 (fun w' => w.heap.size < w'.heap.size ∧ w'.cell? ⟨w.heap.size, 0, none⟩ = some (.int .i64 a.kind) ∧ w'.cell? ⟨w.heap.size, 1, none⟩ = some (.int .i64 a.mant) ∧ w'.cell? ⟨w.heap.size, 2, none⟩ = some (.int .i64 a.exp) ∧ w'.cell? ⟨w.heap.size, 3, none⟩ = some (.string ⟨a.text.toArray⟩) ∧ w'.cell? ⟨w.heap.size, 4, none⟩ = some (.bool a.truth) ∧ w'.cell? ⟨w.heap.size, 5, none⟩ = some (.int .i64 a.fault) ∧ Below w.heap.size w w')
      (first | exact T8.out | exact T8.out.drew | exact (ValIn.next T8.out.drew hb) | (go_split_ands; exact (ValIn.next (w := w) ⟨by assumption, by assumption, by assumption, by assumption, by assumption, by assumption, by assumption, by assumption⟩ hb)))
      (first
        | (go_at_call 57; (with_reducible refine (C1.out _ HT9.out HP9.out).mono ?_); rintro e wx ⟨rfl, hb⟩; have HTa := Lib.hid (HT9.out.next hb))
        | (go_at_call 28; (with_reducible refine (C2.out _ HTa.out).mono ?_); rintro e wx ⟨rfl, hb⟩)
        | (go_at_call 27; (with_reducible refine (C3.out _).mono ?_); rintro e wx ⟨rfl, hb⟩))
    all_goals go_wp2_with fail
    all_goals go_ret
    all_goals refine ⟨rfl, ?_⟩
    all_goals first | assumption | (go_split_ands; assumption)
end Go.Proofs.YtcgdeoldgnjdeaaDoor
