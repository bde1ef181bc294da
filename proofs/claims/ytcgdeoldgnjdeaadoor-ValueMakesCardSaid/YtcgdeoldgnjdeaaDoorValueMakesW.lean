/-
  counterpanelaw02.ValueMakes: the walk.
-/
import Derived.Test.YtcgdeoldgnjdeaaDoorVal10
import Derived.Test.YtcgdeoldgnjdeaaDoorRefB2
import Derived.Test.YtcgdeoldgnjdeaaDoorVal8
namespace Go.Proofs.YtcgdeoldgnjdeaaDoor
open Go.RowKit

theorem rSame_self (v : Val) (w : World) : Calls Tryd.prog 27 #[valV v, valV v] w fun e w' => e = .returned (.bool true) ∧ Below w.heap.size w w' := by
  have := rSame_any v v w
  rw [vSame_self] at this
  exact this
set_option maxRecDepth 100000 in
set_option maxHeartbeats 12800000 in
theorem valueMakes_any (a : Val) (s : Bs) (f : Int) (w : World) (ht : Tab w) (a1 : -9223372036854775808 ≤ a.mant) (a2 : a.mant ≤ 9223372036854775807) (a3 : a.text.length ≤ maxLen) (hs : s.length ≤ maxLen) :
    Calls Tryd.prog 10 #[valV a, .string ⟨s.toArray⟩, .int .i64 f] w fun e w' => e = .returned (.bool true) ∧ Below w.heap.size w w' := by
  have T0 := Lib.hid (ValIn.start w a)
  have HT0 : Hid (Tab (w.alloc (.cells (valC a) 41))) := Lib.hid (ht.alloc _)
  have Hf1 := Lib.hid (fun W => few_any a W a3)
  have HrR := Lib.hid (fun W => rvRight_any a W a1 a2 a3)
  have HvR : Hid (a.text.length ≤ 300 → ∀ W, Calls Tryd.prog 39 #[valV a] W fun x w' => x = .returned (.bool (vRight a)) ∧ Below W.heap.size W w') := Lib.hid (fun h W => vvRight_any a W a1 a2 (by omega))
  have HVO : Hid (vRight a = true → a.kind = 1 → vNumber a.mant a.exp = a) := Lib.hid (fun h hk => by
    have h2 := vRight_num a hk
    rw [h] at h2
    have h3 := (Bool.and_eq_true_iff.1 h2.symm).2
    exact ((vSame_iff _ _).1 h3).symm)
  unfold maxLen at hs
  clear ht a1 a2 a3
  go_enter Tryd.func10, Tryd.ntmps10
  go_wp2_with fail
  refine (awake02_any _ HT0.out).mono ?_
  rintro e w1 ⟨rfl, hb⟩
  have T1 := Lib.hid (T0.out.next hb)
  have HT1 := Lib.hid (HT0.out.next hb)
  clear hb T0 HT0
  obtain ⟨g0, g1, g2, g3, g4, g5, g6, g7⟩ := T1.out
  go_wp2_with fail
  refine (Hf1.out _).mono ?_
  rintro e w2 ⟨rfl, hb⟩
  have T2 := Lib.hid (T1.out.next hb)
  have HT2 := Lib.hid (HT1.out.next hb)
  clear hb T1 HT1
  clear g0 g1 g2 g3 g4 g5 g6 g7
  cases hq : decide (a.text.length ≤ 300)
  · go_wp2_with fail
    refine (awake02_any _ HT2.out).mono ?_
    rintro e wz ⟨rfl, hbz⟩
    have HBz : Hid (Below w.heap.size w wz) := Lib.hid (T2.out.2.2.2.2.2.2.2.trans (hbz.mono T2.out.2.2.2.2.2.2.2.size))
    clear hbz
    go_wp2_with fail
    go_ret
    exact ⟨rfl, HBz.out⟩
  have CvR := Lib.hid (HvR.out (of_decide_eq_true hq))
  clear hq HvR Hf1
  by_cases h1 : 300 < s.length
  · go_wp2_with fail
    refine (awake02_any _ HT2.out).mono ?_
    rintro e wz ⟨rfl, hbz⟩
    have HBz : Hid (Below w.heap.size w wz) := Lib.hid (T2.out.2.2.2.2.2.2.2.trans (hbz.mono T2.out.2.2.2.2.2.2.2.size))
    clear hbz
    go_wp2_with fail
    go_ret
    exact ⟨rfl, HBz.out⟩
  have Ct := Lib.hid (fun W => text_any s W (by omega))
  have Crt := Lib.hid (fun W => rtext_any s W (by omega))
  have Cb := Lib.hid (fun W => bad_any f W)
  have Crb := Lib.hid (fun W => rbad_any f W)
  have Ctr := Lib.hid (fun W => truth_any a.truth W)
  have Crtr := Lib.hid (fun W => rtruth_any a.truth W)
  have hnn : (vRight a != vRight a) = false := by simp
  generalize vText s = q1 at *
  generalize vBad f = q2 at *
  generalize vTruth a.truth = q3 at *
  clear HT2
  go_upto_region 3 with fail
  go_cut [50] (fun v wx => v = .bool false ∧ Hid (ValIn w a wx))
  case first =>
    go_region_held3 (fun w' => w.heap.size < w'.heap.size ∧ w'.cell? ⟨w.heap.size, 0, none⟩ = some (.int .i64 a.kind) ∧ w'.cell? ⟨w.heap.size, 1, none⟩ = some (.int .i64 a.mant) ∧ w'.cell? ⟨w.heap.size, 2, none⟩ = some (.int .i64 a.exp) ∧ w'.cell? ⟨w.heap.size, 3, none⟩ = some (.string ⟨a.text.toArray⟩) ∧ w'.cell? ⟨w.heap.size, 4, none⟩ = some (.bool a.truth) ∧ w'.cell? ⟨w.heap.size, 5, none⟩ = some (.int .i64 a.fault) ∧ Below w.heap.size w w')
      (first | exact T2.out | exact T2.out.drew | exact (ValIn.next T2.out.drew hb) | (go_split_ands; exact (ValIn.next (w := w) ⟨by assumption, by assumption, by assumption, by assumption, by assumption, by assumption, by assumption, by assumption⟩ hb)))
      (first
        | (go_at_call 39; (with_reducible refine (CvR.out _).mono ?_); rintro e wx ⟨rfl, hb⟩)
        | (go_at_call 25; (with_reducible refine (HrR.out _).mono ?_); rintro e wx ⟨rfl, hb⟩)
        | (go_at_call 34; (with_reducible refine (Ct.out _).mono ?_); rintro e wx ⟨rfl, hb⟩)
        | (go_at_call 40; (with_reducible refine (Crt.out _).mono ?_); rintro e wx ⟨rfl, hb⟩)
        | (go_at_call 41; (with_reducible refine (Cb.out _).mono ?_); rintro e wx ⟨rfl, hb⟩)
        | (go_at_call 42; (with_reducible refine (Crb.out _).mono ?_); rintro e wx ⟨rfl, hb⟩)
        | (go_at_call 43; (with_reducible refine (Ctr.out _).mono ?_); rintro e wx ⟨rfl, hb⟩)
        | (go_at_call 44; (with_reducible refine (Crtr.out _).mono ?_); rintro e wx ⟨rfl, hb⟩)
        | (go_at_call 27; (with_reducible refine (rSame_self _ _).mono ?_); rintro e wx ⟨rfl, hb⟩))
    all_goals go_wp2_with fail
    all_goals go_meet
    all_goals refine ⟨rfl, Lib.hid ?_⟩
    all_goals first | assumption | (unfold ValIn; assumption) | (go_split_ands; exact ⟨by assumption, by assumption, by assumption, by assumption, by assumption, by assumption, by assumption, by assumption⟩)
  case rest =>
    obtain ⟨rfl, T3⟩ := hcut
    clear T2 Ct Crt Cb Crb Ctr Crtr CvR
    cases hR : vRight a
    · rw [hR] at HrR
      clear hR hnn HVO
      go_wp2_with fail
      have T4 := T3.out.drew
      obtain ⟨g0, g1, g2, g3, g4, g5, g6, g7⟩ := id T4
      first
        | (go_region_law (have _ := T4; go_simp; go_at_call 25; refine (HrR.out _).mono ?_; rintro e wy ⟨rfl, hb⟩; have T5 := ValIn.next T4 hb; clear hb T4 g0 g1 g2 g3 g4 g5 g6 g7; obtain ⟨g0, g1, g2, g3, g4, g5, g6, g7⟩ := id T5))
        | fail
      all_goals go_wp2_with fail
      all_goals go_ret
      all_goals exact ⟨rfl, g7⟩
    · rw [hR] at HrR
      by_cases hk : a.kind = 1
      · have HV := Lib.hid (HVO.out hR hk)
        have HO := Lib.hid (fun W => of_any a.mant a.exp W)
        rw [HV.out] at HO
        have bk : (a.kind != 1) = false := by rw [bne_eq_false_iff_eq]; exact hk
        clear hR hnn HVO HV hk
        go_wp2_with fail
        go_region_held3 (fun w' => w.heap.size < w'.heap.size ∧ w'.cell? ⟨w.heap.size, 0, none⟩ = some (.int .i64 a.kind) ∧ w'.cell? ⟨w.heap.size, 1, none⟩ = some (.int .i64 a.mant) ∧ w'.cell? ⟨w.heap.size, 2, none⟩ = some (.int .i64 a.exp) ∧ w'.cell? ⟨w.heap.size, 3, none⟩ = some (.string ⟨a.text.toArray⟩) ∧ w'.cell? ⟨w.heap.size, 4, none⟩ = some (.bool a.truth) ∧ w'.cell? ⟨w.heap.size, 5, none⟩ = some (.int .i64 a.fault) ∧ Below w.heap.size w w')
          (first | exact T3.out | exact T3.out.drew | exact (ValIn.next T3.out.drew hb) | (go_split_ands; exact (ValIn.next (w := w) ⟨by assumption, by assumption, by assumption, by assumption, by assumption, by assumption, by assumption, by assumption⟩ hb)))
          (first
            | (go_at_call 25; (with_reducible refine (HrR.out _).mono ?_); rintro e wx ⟨rfl, hb⟩)
            | (go_at_call 45; (with_reducible refine (HO.out _).mono ?_); rintro e wx ⟨rfl, hb⟩)
            | (go_at_call 27; (with_reducible refine (rSame_self a _).mono ?_); rintro e wx ⟨rfl, hb⟩))
        all_goals go_wp2_with fail
        all_goals go_ret
        all_goals refine ⟨rfl, ?_⟩
        all_goals first | assumption | (go_split_ands; assumption)
      · have bk : (a.kind != 1) = true := by rw [bne_iff_ne]; exact hk
        clear hR hnn HVO hk
        go_wp2_with fail
        have T4 := T3.out.drew
        obtain ⟨g0, g1, g2, g3, g4, g5, g6, g7⟩ := id T4
        first
          | (go_region_law (have _ := T4; go_simp; go_at_call 25; refine (HrR.out _).mono ?_; rintro e wy ⟨rfl, hb⟩; have T5 := ValIn.next T4 hb; clear hb T4 g0 g1 g2 g3 g4 g5 g6 g7; obtain ⟨g0, g1, g2, g3, g4, g5, g6, g7⟩ := id T5))
          | fail
        all_goals go_wp2_with fail
        all_goals go_ret
        all_goals exact ⟨rfl, g7⟩
end Go.Proofs.YtcgdeoldgnjdeaaDoor
