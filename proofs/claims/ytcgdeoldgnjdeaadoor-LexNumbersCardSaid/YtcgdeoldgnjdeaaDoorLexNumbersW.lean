/-
  counterpanelaw05.LexNumbers: the walk.
-/
import Derived.Test.YtcgdeoldgnjdeaaDoorLexA
import Derived.Test.YtcgdeoldgnjdeaaDoorPlainJ
import Derived.Test.YtcgdeoldgnjdeaaDoorNum11
import Derived.Test.YtcgdeoldgnjdeaaDoorNum9
import Derived.Test.YtcgdeoldgnjdeaaDoorNum10
namespace Go.Proofs.YtcgdeoldgnjdeaaDoor
open Go.RowKit

theorem text_short' (m e : Int) (hR : pRight m e = true) : (nText m e).length ≤ 255 := by
  rcases Nat.lt_or_ge 255 (nText m e).length with hl | hl
  · have hp := parse_text _ _ hR
    unfold pParse at hp
    rw [if_pos hl] at hp
    cases hp
  · exact hl
theorem Lies.num {w : World} {R : Nat} {m e : Int} (h : Lies w R 39 #[.int .i64 m, .int .i64 e]) : w.cell? ⟨R, 0, none⟩ = some (.int .i64 m) ∧ w.cell? ⟨R, 1, none⟩ = some (.int .i64 e) ∧ w.frozen? ⟨R, 0, none⟩ = false ∧ w.frozen? ⟨R, 1, none⟩ = false ∧ R < w.heap.size := ⟨h.cell 0, h.cell 1, h.frozen 0, h.frozen 1, h.lt⟩
theorem own_cap2 {w : World} {base : Nat} {e : TypeId} {size : Nat} {a : Addr} {n cap : Nat} {xs : List Value} (h : w.ownsRow base e size (.slice (some a) n cap) n xs) : n ≤ cap := by
  rcases h.2 with ⟨hv, _⟩ | ⟨g, cap', cur, hv, _, _, hc, _⟩
  · cases hv
  · injection hv with _ _ hc'
    subst hc'
    exact hc
theorem cell_set_ne {b c : Nat} (h : b ≠ c) (w : World) (o o2 : Nat) (v : Value) : (w.setCell ⟨c, o2, none⟩ v).cell? ⟨b, o, none⟩ = w.cell? ⟨b, o, none⟩ :=
  World.cell?_setCell_other w ⟨c, o2, none⟩ ⟨b, o, none⟩ v (fun e => h (congrArg Addr.block e).symm)
theorem run_eql_num (m e : Int) (w : World) : (binOp .eql 39 (.agg #[.int .i64 m, .int .i64 e]) (.agg #[.int .i64 m, .int .i64 e])).run Tryd.prog w = .ok (.bool true) w := by
  go_simp

set_option maxRecDepth 100000 in
set_option maxHeartbeats 1600000 in
theorem lexNumbers_not (m e : Int) (w : World) (ht : Tab w) (a1 : -9223372036854775808 ≤ m) (a2 : m ≤ 9223372036854775807) (hR : pRight m e = false) :
    Calls Tryd.prog 14 #[numV m e] w fun e w' => e = .returned (.bool true) ∧ Below w.heap.size w w' := by
  have L0 := Lib.hid (Lies.new w 39 #[.int .i64 m, .int .i64 e])
  have HT0 : Hid (Tab (w.alloc (.cells #[.int .i64 m, .int .i64 e] 39))) := Lib.hid (ht.alloc _)
  have HB0 : Hid (Below w.heap.size w (w.alloc (.cells #[.int .i64 m, .int .i64 e] 39))) := Lib.hid ((Below.refl _ w).alloc (Nat.le_refl _) _)
  have CR := Lib.hid (fun W => right_any m e W a1 a2)
  rw [hR] at CR
  clear ht hR a1 a2
  go_enter Tryd.func14, Tryd.ntmps14
  go_wp2_with fail
  refine (awake_any _ HT0.out).mono ?_
  rintro x w1 ⟨rfl, hb⟩
  have L1 := Lib.hid (L0.out.below hb)
  have HT1 := Lib.hid (HT0.out.next hb)
  have HB1 := Lib.hid (HB0.out.trans (hb.mono HB0.out.size))
  clear hb L0 HT0 HB0
  obtain ⟨c0, c1, f0, f1, lt⟩ := Lies.num L1.out
  go_wp2_with fail
  refine (CR.out _).mono ?_
  rintro x w2 ⟨rfl, hb⟩
  have HT2 := Lib.hid (HT1.out.next hb)
  have HB2 := Lib.hid (HB1.out.trans (hb.mono HB1.out.size))
  clear hb L1 HT1 HB1 c0 c1 f0 f1 lt
  go_wp2_with fail
  refine (awake_any _ HT2.out).mono ?_
  rintro x w3 ⟨rfl, hb⟩
  have HB3 := Lib.hid (HB2.out.trans (hb.mono HB2.out.size))
  clear hb HB2 HT2
  go_wp2_with fail
  go_ret
  exact ⟨rfl, HB3.out⟩

set_option maxRecDepth 100000 in
set_option maxHeartbeats 3200000 in
theorem lexNumbers_pos (m e : Int) (w : World) (ht : Tab w) (hp : PowTab w) (a1 : 0 ≤ m) (a2 : m ≤ 9223372036854775807) (hR : pRight m e = true) :
    Calls Tryd.prog 14 #[numV m e] w fun e w' => e = .returned (.bool true) ∧ Below w.heap.size w w' := by
  have L0 := Lib.hid (Lies.new w 39 #[.int .i64 m, .int .i64 e])
  have HT0 : Hid (Tab (w.alloc (.cells #[.int .i64 m, .int .i64 e] 39))) := Lib.hid (ht.alloc _)
  have HB0 : Hid (Below w.heap.size w (w.alloc (.cells #[.int .i64 m, .int .i64 e] 39))) := Lib.hid ((Below.refl _ w).alloc (Nat.le_refl _) _)
  have HP0 := Lib.hid (hp.next HB0.out)
  have CR := Lib.hid (fun W => right_any m e W (by omega) a2)
  have CT := Lib.hid (fun W h => nText_right m e W h (by omega) a2 hR)
  have hsh := text_short' m e hR
  have CL := Lib.hid (fun W (h : Tab W) => lex_ok (nText m e) [⟨1, nText m e, 0⟩] W (by omega) h (by rw [nText_lexes m e hR, if_neg (by omega)]))
  have CP := Lib.hid (fun W => parse_any (nText m e) W (by omega))
  rw [parse_text m e hR] at CP
  rw [hR] at CR
  have hE := run_eql_num m e
  generalize nText m e = s at *
  clear ht hR hp
  go_enter Tryd.func14, Tryd.ntmps14
  go_wp2_with fail
  refine (awake_any _ HT0.out).mono ?_
  rintro x w1 ⟨rfl, hb⟩
  have L1 := Lib.hid (L0.out.below hb)
  have HT1 := Lib.hid (HT0.out.next hb)
  have HP1 := Lib.hid (HP0.out.next hb)
  have HB1 := Lib.hid (HB0.out.trans (hb.mono HB0.out.size))
  clear hb L0 HT0 HB0 HP0
  obtain ⟨c0, c1, f0, f1, lt⟩ := Lies.num L1.out
  go_wp2_with fail
  refine (CR.out _).mono ?_
  rintro x w2 ⟨rfl, hb⟩
  have L2 := Lib.hid (L1.out.below hb)
  have HT2 := Lib.hid (HT1.out.next hb)
  have HP2 := Lib.hid (HP1.out.next hb)
  have HB2 := Lib.hid (HB1.out.trans (hb.mono HB1.out.size))
  clear hb L1 HT1 HB1 HP1 c0 c1 f0 f1 lt
  obtain ⟨c0, c1, f0, f1, lt⟩ := Lies.num L2.out
  go_wp2_with fail
  refine (CT.out _ HP2.out).mono ?_
  rintro x w3 ⟨rfl, hb⟩
  have L3 := Lib.hid (L2.out.below hb)
  have HT3 := Lib.hid (HT2.out.next hb)
  have HB3 := Lib.hid (HB2.out.trans (hb.mono HB2.out.size))
  clear hb L2 HT2 HB2 HP2 c0 c1 f0 f1 lt
  go_wp2_with fail
  refine (CL.out _ HT3.out).mono ?_
  rintro x w4 ⟨g, cap, rfl, hown, hb⟩
  have L4 := Lib.hid (L3.out.below hb)
  have HB4 := Lib.hid (HB3.out.trans (hb.mono HB3.out.size))
  have k0 : w4.cell? ⟨g, 0, none⟩ = some (.int .i64 1) := (hown.cellAt 0 (by simp)).trans rfl
  have k1 : w4.cell? ⟨g, 1, none⟩ = some (.string ⟨s.toArray⟩) := (hown.cellAt 1 (by simp)).trans rfl
  have hg := (hown.lt g rfl).2
  have K0 := Lib.hid k0
  have K1 := Lib.hid k1
  clear hb L3 HT3 HB3 hown
  obtain ⟨c0, c1, f0, f1, lt⟩ := Lies.num L4.out
  have hm : ¬ m < 0 := by omega
  have hm2 : decide (m < 0) = false := decide_eq_false hm
  go_wp2_with fail
  refine (CP.out _).mono ?_
  rintro x w5 ⟨rfl, hb⟩
  have L5 := Lib.hid (L4.out.below hb)
  have HB5 := Lib.hid (HB4.out.trans (hb.mono HB4.out.size))
  have q0 := (hb.cell (p := ⟨g, 0, none⟩) hg).trans K0.out
  have hz := hb.size
  clear hb L4 HB4 c0 c1 f0 f1 lt k0 k1 K0 K1
  obtain ⟨c0, c1, f0, f1, lt⟩ := Lies.num L5.out
  have hgz : g < w5.heap.size := by omega
  unfold numOut
  go_wp2_with fail
  go_ret
  exact ⟨rfl, HB5.out.alloc HB5.out.size _⟩
set_option maxRecDepth 100000 in
set_option maxHeartbeats 3200000 in
theorem lexNumbers_neg (m e : Int) (w : World) (ht : Tab w) (hp : PowTab w) (a1 : -9223372036854775808 < m) (a2 : m < 0) (hR : pRight m e = true) :
    Calls Tryd.prog 14 #[numV m e] w fun e w' => e = .returned (.bool true) ∧ Below w.heap.size w w' := by
  have L0 := Lib.hid (Lies.new w 39 #[.int .i64 m, .int .i64 e])
  have HT0 : Hid (Tab (w.alloc (.cells #[.int .i64 m, .int .i64 e] 39))) := Lib.hid (ht.alloc _)
  have HB0 : Hid (Below w.heap.size w (w.alloc (.cells #[.int .i64 m, .int .i64 e] 39))) := Lib.hid ((Below.refl _ w).alloc (Nat.le_refl _) _)
  have HP0 := Lib.hid (hp.next HB0.out)
  have CR := Lib.hid (fun W => right_any m e W (by omega) (by omega))
  have CT := Lib.hid (fun W h => nText_right m e W h (by omega) (by omega) hR)
  have hsh := text_short' m e hR
  have CL := Lib.hid (fun W (h : Tab W) => lex_ok (nText m e) [⟨5, [45], 0⟩, ⟨1, nText (-m) e, 1⟩] W (by omega) h (by rw [nText_lexes m e hR, if_pos a2]))
  have hR2 := right_neg m e hR
  have hsh2 := text_short' (-m) e hR2
  have CP := Lib.hid (fun W => parse_any (nText (-m) e) W (by omega))
  rw [parse_text (-m) e hR2] at CP
  have CN := Lib.hid (fun W => neg_right m e W a1 (by omega) hR)
  rw [hR] at CR
  have hE := run_eql_num (-m) e
  generalize nText m e = s at *
  generalize nText (-m) e = t at *
  clear ht hR hp hR2
  go_enter Tryd.func14, Tryd.ntmps14
  go_wp2_with fail
  refine (awake_any _ HT0.out).mono ?_
  rintro x w1 ⟨rfl, hb⟩
  have L1 := Lib.hid (L0.out.below hb)
  have HT1 := Lib.hid (HT0.out.next hb)
  have HP1 := Lib.hid (HP0.out.next hb)
  have HB1 := Lib.hid (HB0.out.trans (hb.mono HB0.out.size))
  clear hb L0 HT0 HB0 HP0
  obtain ⟨c0, c1, f0, f1, lt⟩ := Lies.num L1.out
  go_wp2_with fail
  refine (CR.out _).mono ?_
  rintro x w2 ⟨rfl, hb⟩
  have L2 := Lib.hid (L1.out.below hb)
  have HT2 := Lib.hid (HT1.out.next hb)
  have HP2 := Lib.hid (HP1.out.next hb)
  have HB2 := Lib.hid (HB1.out.trans (hb.mono HB1.out.size))
  clear hb L1 HT1 HB1 HP1 c0 c1 f0 f1 lt
  obtain ⟨c0, c1, f0, f1, lt⟩ := Lies.num L2.out
  go_wp2_with fail
  refine (CT.out _ HP2.out).mono ?_
  rintro x w3 ⟨rfl, hb⟩
  have L3 := Lib.hid (L2.out.below hb)
  have HT3 := Lib.hid (HT2.out.next hb)
  have HB3 := Lib.hid (HB2.out.trans (hb.mono HB2.out.size))
  clear hb L2 HT2 HB2 HP2 c0 c1 f0 f1 lt
  go_wp2_with fail
  refine (CL.out _ HT3.out).mono ?_
  rintro x w4 ⟨g, cap, rfl, hown, hb⟩
  have L4 := Lib.hid (L3.out.below hb)
  have HB4 := Lib.hid (HB3.out.trans (hb.mono HB3.out.size))
  have k0 : w4.cell? ⟨g, 0, none⟩ = some (.int .i64 5) := (hown.cellAt 0 (by simp)).trans rfl
  have k1 : w4.cell? ⟨g, 1, none⟩ = some (.string ⟨#[45]⟩) := (hown.cellAt 1 (by simp)).trans rfl
  have K3 := Lib.hid ((hown.cellAt 3 (by simp)).trans rfl : w4.cell? ⟨g, 3, none⟩ = some (.int .i64 1))
  have K4 := Lib.hid ((hown.cellAt 4 (by simp)).trans rfl : w4.cell? ⟨g, 4, none⟩ = some (.string ⟨t.toArray⟩))
  have hg := (hown.lt g rfl).2
  have hcap : 3 ≤ cap := own_cap2 hown
  have hc1 : ¬ cap = 1 := by omega
  have HNE : Hid (g ≠ w.heap.size) := Lib.hid (by have := (hown.lt g rfl).1; have := L3.out.lt; omega)
  clear hb L3 HT3 HB3 hown
  obtain ⟨c0, c1, f0, f1, lt⟩ := Lies.num L4.out
  have hm2 : decide (m < 0) = true := decide_eq_true a2
  go_upto_region 9 with fail
  go_cut [3] (fun v wx => v = .slice (some ⟨g, 3, none⟩) 2 (cap - 1) ∧ Hid (wx.cell? ⟨g, 3, none⟩ = some (.int .i64 1)) ∧ Hid (wx.cell? ⟨g, 4, none⟩ = some (.string ⟨t.toArray⟩)) ∧ Hid (Lies wx w.heap.size 39 #[.int .i64 (-m), .int .i64 e]) ∧ Hid (Below w.heap.size w wx) ∧ g < wx.heap.size)
  case first =>
    go_region_law (go_simp; go_at_call 54; (with_reducible refine (CN.out _).mono ?_); rintro x w5 ⟨rfl, hb⟩; have L5 : Lies w5 w.heap.size 39 #[.int .i64 m, .int .i64 e] := Lies.below (w := w4.drew) L4.out hb; have L6 := Lib.hid L5; have H5 := Lib.hid hb; obtain ⟨d0, d1, e0, e1, d4⟩ := Lies.num L5; clear L5 hb)
    all_goals go_wp2_with fail
    all_goals go_meet
    all_goals
      refine ⟨rfl, Lib.hid ?_, Lib.hid ?_, Lib.hid ?_, Lib.hid ?_, ?_⟩
      · rw [cell_set_ne HNE.out, cell_set_ne HNE.out]
        exact (H5.out.cell (p := ⟨g, 3, none⟩) hg).trans K3.out
      · rw [cell_set_ne HNE.out, cell_set_ne HNE.out]
        exact (H5.out.cell (p := ⟨g, 4, none⟩) hg).trans K4.out
      · exact (L6.out.put 0 (.int .i64 (-m))).put 1 (.int .i64 e)
      · exact ((HB4.out.drew.trans (H5.out.mono HB4.out.size)).setCell (p := ⟨w.heap.size, 0, none⟩) (Nat.le_refl _) _).setCell (p := ⟨w.heap.size, 1, none⟩) (Nat.le_refl _) _
      · have := H5.out.size
        have : g < w5.heap.size := Nat.lt_of_lt_of_le hg this
        simpa using this
  case rest =>
    obtain ⟨rfl, K5, K6, L5, HB5, hg5⟩ := hcut
    clear K3 K4 L4 HB4 c0 c1 f0 f1 lt k0 k1 hg hc1 HNE CN
    have q4 := K6.out
    go_wp2_with fail
    refine (CP.out _).mono ?_
    rintro x w6 ⟨rfl, hb⟩
    have L6 := Lib.hid (L5.out.below hb)
    have HB6 := Lib.hid (HB5.out.trans (hb.mono HB5.out.size))
    have q3 := (hb.cell (p := ⟨g, 3, none⟩) hg5).trans K5.out
    have hz := hb.size
    clear hb L5 HB5 q4 K5 K6
    obtain ⟨c0, c1, f0, f1, lt⟩ := Lies.num L6.out
    have hgz : g < w6.heap.size := by omega
    unfold numOut
    go_wp2_with fail
    go_ret
    exact ⟨rfl, HB6.out.alloc HB6.out.size _⟩
theorem lexNumbers_any (m e : Int) (w : World) (ht : Tab w) (hp : PowTab w) (a1 : -9223372036854775808 ≤ m) (a2 : m ≤ 9223372036854775807) :
    Calls Tryd.prog 14 #[numV m e] w fun e w' => e = .returned (.bool true) ∧ Below w.heap.size w w' := by
  cases hR : pRight m e
  · exact lexNumbers_not m e w ht a1 a2 hR
  · by_cases h0 : m < 0
    · have := pRight_of hR (by omega)
      exact lexNumbers_neg m e w ht hp (by omega) h0 hR
    · exact lexNumbers_pos m e w ht hp (by omega) a2 hR
end Go.Proofs.YtcgdeoldgnjdeaaDoor
