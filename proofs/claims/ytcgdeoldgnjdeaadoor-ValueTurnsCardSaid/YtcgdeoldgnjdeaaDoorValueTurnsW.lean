/-
  counterpanelaw02.ValueTurns: the walk.
-/
import Derived.Test.YtcgdeoldgnjdeaaDoorRefC
import Derived.Test.YtcgdeoldgnjdeaaDoorVal8
import Derived.Test.YtcgdeoldgnjdeaaDoorVal9
namespace Go.Proofs.YtcgdeoldgnjdeaaDoor
open Go.RowKit

/-- a number in a box -/
def BoxN (w' : World) (p : Nat) (m e : Int) : Prop := p < w'.heap.size ∧ w'.cell? ⟨p, 0, none⟩ = some (.int .i64 m) ∧ w'.cell? ⟨p, 1, none⟩ = some (.int .i64 e)
theorem BoxN.next {w w' : World} {p : Nat} {m e : Int} (h : BoxN w p m e) (hb : Below w.heap.size w w') : BoxN w' p m e := by
  obtain ⟨h0, h1, h2⟩ := h
  have hs := hb.size
  exact ⟨by omega, (hb.cell (p := ⟨_, _, none⟩) h0).trans h1, (hb.cell (p := ⟨_, _, none⟩) h0).trans h2⟩
theorem BoxN.drew {w : World} {p : Nat} {m e : Int} (h : BoxN w p m e) : BoxN w.drew p m e := h.next (Below.refl _ _).drew
theorem BoxN.new (w : World) (m e : Int) : BoxN (w.alloc (.cells #[.int .i64 m, .int .i64 e] 39)) w.heap.size m e := ⟨by simp, by simp, by simp⟩
theorem alloc_below (w : World) (o : Obj) : Below w.heap.size w (w.alloc o) := (Below.refl _ w).alloc (Nat.le_refl _) _
def TIn (w : World) (a : Val) (p q : Nat) (M E : Int) (w' : World) : Prop := w.heap.size < w'.heap.size ∧ w'.cell? ⟨w.heap.size, 0, none⟩ = some (.int .i64 a.kind) ∧ w'.cell? ⟨w.heap.size, 1, none⟩ = some (.int .i64 a.mant) ∧ w'.cell? ⟨w.heap.size, 2, none⟩ = some (.int .i64 a.exp) ∧ w'.cell? ⟨w.heap.size, 3, none⟩ = some (.string ⟨a.text.toArray⟩) ∧ w'.cell? ⟨w.heap.size, 4, none⟩ = some (.bool a.truth) ∧ w'.cell? ⟨w.heap.size, 5, none⟩ = some (.int .i64 a.fault) ∧ Below w.heap.size w w' ∧ p < w'.heap.size ∧ w'.cell? ⟨p, 0, none⟩ = some (.int .i64 M) ∧ w'.cell? ⟨p, 1, none⟩ = some (.int .i64 E) ∧ q < w'.heap.size ∧ w'.cell? ⟨q, 0, none⟩ = some (.int .i64 M) ∧ w'.cell? ⟨q, 1, none⟩ = some (.int .i64 E)
theorem TIn.mk {w w' : World} {a : Val} {p q : Nat} {M E : Int} (h : ValIn w a w') (h1 : BoxN w' p M E) (h2 : BoxN w' q M E) : TIn w a p q M E w' := by
  obtain ⟨g0, g1, g2, g3, g4, g5, g6, g7⟩ := h
  obtain ⟨k0, k1, k2⟩ := h1
  obtain ⟨l0, l1, l2⟩ := h2
  exact ⟨g0, g1, g2, g3, g4, g5, g6, g7, k0, k1, k2, l0, l1, l2⟩
theorem TIn.next {w w' w'' : World} {a : Val} {p q : Nat} {M E : Int} (h : TIn w a p q M E w') (hb : Below w'.heap.size w' w'') : TIn w a p q M E w'' := by
  obtain ⟨g0, g1, g2, g3, g4, g5, g6, g7, k0, k1, k2, l0, l1, l2⟩ := h
  exact TIn.mk (ValIn.next ⟨g0, g1, g2, g3, g4, g5, g6, g7⟩ hb) (BoxN.next ⟨k0, k1, k2⟩ hb) (BoxN.next ⟨l0, l1, l2⟩ hb)
theorem TIn.drew {w w' : World} {a : Val} {p q : Nat} {M E : Int} (h : TIn w a p q M E w') : TIn w a p q M E w'.drew := h.next (Below.refl _ _).drew
set_option maxRecDepth 100000 in
set_option maxHeartbeats 12800000 in
theorem valueTurns_any (a : Val) (w : World) (ht : Tab w) (hp : PowTab w) (a1 : -9223372036854775808 ≤ a.mant) (a2 : a.mant ≤ 9223372036854775807) (a3 : a.text.length ≤ maxLen) :
    Calls Tryd.prog 16 #[valV a] w fun e w' => e = .returned (.bool true) ∧ Below w.heap.size w w' := by
  have T0 := Lib.hid (ValIn.start w a)
  have HT0 : Hid (Tab (w.alloc (.cells (valC a) 41))) := Lib.hid (ht.alloc _)
  have HP0 : Hid (PowTab (w.alloc (.cells (valC a) 41))) := Lib.hid (hp.next ((Below.refl _ w).alloc (Nat.le_refl _) _))
  have Hf1 := Lib.hid (fun W => few_any a W a3)
  have HrR := Lib.hid (fun W => rvRight_any a W a1 a2 a3)
  have hl : a.text.length ≤ 300 → a.text.length ≤ 1000000 := fun h => by omega
  clear ht hp
  go_enter Tryd.func16, Tryd.ntmps16
  go_wp2_with fail
  refine (awake02_any _ HT0.out).mono ?_
  rintro e w1 ⟨rfl, hb⟩
  have T1 := Lib.hid (T0.out.next hb)
  have HT1 := Lib.hid (HT0.out.next hb)
  have HP1 := Lib.hid (HP0.out.next hb)
  clear hb T0 HT0 HP0
  obtain ⟨g0, g1, g2, g3, g4, g5, g6, g7⟩ := T1.out
  go_wp2_with fail
  refine (Hf1.out _).mono ?_
  rintro e w2 ⟨rfl, hb⟩
  have T2 := Lib.hid (T1.out.next hb)
  have HT2 := Lib.hid (HT1.out.next hb)
  have HP2 := Lib.hid (HP1.out.next hb)
  clear hb T1 HT1 HP1
  clear g0 g1 g2 g3 g4 g5 g6 g7
  cases hq : decide (a.text.length ≤ 300)
  · go_wp2_with fail
    refine (awake02_any _ HT2.out).mono ?_
    rintro e wz ⟨rfl, hbz⟩
    have HBz : Hid (Below w.heap.size w wz) := Lib.hid (T2.out.2.2.2.2.2.2.2.trans (hbz.mono T2.out.2.2.2.2.2.2.2.size))
    clear hbz
    go_wp2_with fail
    go_ret
    exact ⟨rfl, HBz.out⟩
  have hsh := of_decide_eq_true hq
  clear hq Hf1
  obtain ⟨g0, g1, g2, g3, g4, g5, g6, g7⟩ := T2.out
  go_wp2_with fail
  refine (HrR.out _).mono ?_
  rintro e w3 ⟨rfl, hb⟩
  have T3 := Lib.hid (T2.out.next hb)
  have HT3 := Lib.hid (HT2.out.next hb)
  have HP3 := Lib.hid (HP2.out.next hb)
  clear hb T2 HT2 HP2
  clear g0 g1 g2 g3 g4 g5 g6 g7
  cases hR : vRight a
  · go_wp2_with fail
    refine (awake02_any _ HT3.out).mono ?_
    rintro e wz ⟨rfl, hbz⟩
    have HBz : Hid (Below w.heap.size w wz) := Lib.hid (T3.out.2.2.2.2.2.2.2.trans (hbz.mono T3.out.2.2.2.2.2.2.2.size))
    clear hbz
    go_wp2_with fail
    go_ret
    exact ⟨rfl, HBz.out⟩
  clear HrR
  have hk1 : a.kind = 1 → pRight a.mant a.exp = true := fun h => (Bool.and_eq_true_iff.1 ((vRight_num a h).symm.trans hR)).1
  have C1 := Lib.hid (fun W => toNum_any a W (hl hsh))
  have C2 := Lib.hid (fun W => rToNum_right a W hR)
  have C3 := Lib.hid (fun W h => toText_any a W h a1 a2 hk1)
  have C4 := Lib.hid (fun W => rToText_right a W hR)
  have C5 := Lib.hid (fun W => toTruth_any a W a3)
  have C6 := Lib.hid (fun W => rToTruth_right a W hR)
  have C7 := Lib.hid (fun W h h' => show_any a W h h' a1 a2 hk1)
  have C8 := Lib.hid (fun W => rShow_right a W hR)
  generalize (vToNum a).1.1 = M at *
  generalize (vToNum a).1.2 = E at *
  generalize (vToNum a).2 = F at *
  generalize (vToText a).1 = S at *
  generalize (vToText a).2 = F2 at *
  generalize (vToTruth a).1 = B at *
  generalize (vToTruth a).2 = F3 at *
  generalize vShow a = sh at *
  clear hk1 hl hsh hR a1 a2 a3
  obtain ⟨g0, g1, g2, g3, g4, g5, g6, g7⟩ := T3.out
  go_wp2_with fail
  refine (C1.out _).mono ?_
  rintro e w4 ⟨rfl, hb⟩
  have T4 : Hid (ValIn w a (w4.alloc (.cells #[.int .i64 M, .int .i64 E] 39))) := Lib.hid ((T3.out.next hb).next (alloc_below _ _))
  have HT4 : Hid (Tab (w4.alloc (.cells #[.int .i64 M, .int .i64 E] 39))) := Lib.hid ((HT3.out.next hb).next (alloc_below _ _))
  have HP4 : Hid (PowTab (w4.alloc (.cells #[.int .i64 M, .int .i64 E] 39))) := Lib.hid ((HP3.out.next hb).next (alloc_below _ _))
  have N4 := Lib.hid (BoxN.new w4 M E)
  clear hb T3 HT3 HP3 g0 g1 g2 g3 g4 g5 g6 g7 C1
  obtain ⟨g0, g1, g2, g3, g4, g5, g6, g7⟩ := T4.out
  go_wp2_with fail
  refine (C2.out _).mono ?_
  rintro e w5 ⟨rfl, hb⟩
  have T5 : Hid (ValIn w a (w5.alloc (.cells #[.int .i64 M, .int .i64 E] 39))) := Lib.hid ((T4.out.next hb).next (alloc_below _ _))
  have HT5 : Hid (Tab (w5.alloc (.cells #[.int .i64 M, .int .i64 E] 39))) := Lib.hid ((HT4.out.next hb).next (alloc_below _ _))
  have HP5 : Hid (PowTab (w5.alloc (.cells #[.int .i64 M, .int .i64 E] 39))) := Lib.hid ((HP4.out.next hb).next (alloc_below _ _))
  have N5 : Hid (BoxN (w5.alloc (.cells #[.int .i64 M, .int .i64 E] 39)) w4.heap.size M E) := Lib.hid ((N4.out.next hb).next (alloc_below _ _))
  have K5 := Lib.hid (BoxN.new w5 M E)
  clear hb T4 HT4 HP4 g0 g1 g2 g3 g4 g5 g6 g7 C2 N4
  generalize w4.heap.size = p at *
  obtain ⟨g0, g1, g2, g3, g4, g5, g6, g7⟩ := T5.out
  go_wp2_with fail
  refine (C3.out _ HP5.out).mono ?_
  rintro e w6 ⟨rfl, hb⟩
  have T6 := Lib.hid (T5.out.next hb)
  have HT6 := Lib.hid (HT5.out.next hb)
  have HP6 := Lib.hid (HP5.out.next hb)
  have N6 := Lib.hid (N5.out.next hb)
  have K6 := Lib.hid (K5.out.next hb)
  clear hb T5 HT5 HP5 g0 g1 g2 g3 g4 g5 g6 g7 C3 N5 K5
  generalize w5.heap.size = q at *
  obtain ⟨g0, g1, g2, g3, g4, g5, g6, g7⟩ := T6.out
  go_wp2_with fail
  refine (C4.out _).mono ?_
  rintro e w7 ⟨rfl, hb⟩
  have T7 := Lib.hid (T6.out.next hb)
  have HT7 := Lib.hid (HT6.out.next hb)
  have HP7 := Lib.hid (HP6.out.next hb)
  have N7 := Lib.hid (N6.out.next hb)
  have K7 := Lib.hid (K6.out.next hb)
  clear hb T6 HT6 HP6 g0 g1 g2 g3 g4 g5 g6 g7 C4 N6 K6
  obtain ⟨g0, g1, g2, g3, g4, g5, g6, g7⟩ := T7.out
  go_wp2_with fail
  refine (C5.out _).mono ?_
  rintro e w8 ⟨rfl, hb⟩
  have T8 := Lib.hid (T7.out.next hb)
  have HT8 := Lib.hid (HT7.out.next hb)
  have HP8 := Lib.hid (HP7.out.next hb)
  have N8 := Lib.hid (N7.out.next hb)
  have K8 := Lib.hid (K7.out.next hb)
  clear hb T7 HT7 HP7 g0 g1 g2 g3 g4 g5 g6 g7 C5 N7 K7
  obtain ⟨g0, g1, g2, g3, g4, g5, g6, g7⟩ := T8.out
  go_wp2_with fail
  refine (C6.out _).mono ?_
  rintro e w9 ⟨rfl, hb⟩
  have T9 := Lib.hid (T8.out.next hb)
  have HT9 := Lib.hid (HT8.out.next hb)
  have HP9 := Lib.hid (HP8.out.next hb)
  have N9 := Lib.hid (N8.out.next hb)
  have K9 := Lib.hid (K8.out.next hb)
  clear hb T8 HT8 HP8 g0 g1 g2 g3 g4 g5 g6 g7 C6 N8 K8
  have S9 : Hid (TIn w a p q M E w9) := Lib.hid (TIn.mk T9.out N9.out K9.out)
  have hr1 : (M == M) = true := by simp
  have hr2 : (E == E) = true := by simp
  have hr3 : (F == F) = true := by simp
  have hr4 : (S == S) = true := by simp
  have hr5 : (F2 == F2) = true := by simp
  have hr6 : (B == B) = true := by simp
  have hr7 : (F3 == F3) = true := by simp
  have hr8 : (sh == sh) = true := by simp
  have HT9' : Hid (Tab w9.drew) := HT9
  have HP9' : Hid (PowTab w9.drew) := HP9
  clear T9 N9 K9
  go_wp2_with fail
  go_region_held3 (fun w' => w.heap.size < w'.heap.size ∧ w'.cell? ⟨w.heap.size, 0, none⟩ = some (.int .i64 a.kind) ∧ w'.cell? ⟨w.heap.size, 1, none⟩ = some (.int .i64 a.mant) ∧ w'.cell? ⟨w.heap.size, 2, none⟩ = some (.int .i64 a.exp) ∧ w'.cell? ⟨w.heap.size, 3, none⟩ = some (.string ⟨a.text.toArray⟩) ∧ w'.cell? ⟨w.heap.size, 4, none⟩ = some (.bool a.truth) ∧ w'.cell? ⟨w.heap.size, 5, none⟩ = some (.int .i64 a.fault) ∧ Below w.heap.size w w' ∧ p < w'.heap.size ∧ w'.cell? ⟨p, 0, none⟩ = some (.int .i64 M) ∧ w'.cell? ⟨p, 1, none⟩ = some (.int .i64 E) ∧ q < w'.heap.size ∧ w'.cell? ⟨q, 0, none⟩ = some (.int .i64 M) ∧ w'.cell? ⟨q, 1, none⟩ = some (.int .i64 E))
    (first | exact S9.out | exact S9.out.drew | exact TIn.next S9.out.drew hb | (go_split_ands; exact TIn.next (w := w) (a := a) (p := p) (q := q) (M := M) (E := E) ⟨by assumption, by assumption, by assumption, by assumption, by assumption, by assumption, by assumption, by assumption, by assumption, by assumption, by assumption, by assumption, by assumption, by assumption⟩ hb))
    (first
      | (go_at_call 57; (with_reducible refine (C7.out _ HT9'.out HP9'.out).mono ?_); rintro e wx ⟨rfl, hb⟩)
      | (go_at_call 64; (with_reducible refine (C8.out _).mono ?_); rintro e wx ⟨rfl, hb⟩))
  all_goals go_wp2_with fail
  all_goals go_ret
  all_goals refine ⟨rfl, ?_⟩
  all_goals first | assumption | (go_split_ands; assumption)
end Go.Proofs.YtcgdeoldgnjdeaaDoor
