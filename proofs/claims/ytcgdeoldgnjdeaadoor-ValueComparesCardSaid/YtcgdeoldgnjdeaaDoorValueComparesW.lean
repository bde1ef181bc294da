/-
  counterpanelaw02.ValueCompares: the walk (written by gen/vcw.py).
-/
import Derived.Test.YtcgdeoldgnjdeaaDoorRefD7
import Derived.Test.YtcgdeoldgnjdeaaDoorValueOrdersW
namespace Go.Proofs.YtcgdeoldgnjdeaaDoor
open Go.RowKit

/-- two values in two boxes of the call's own -/
def PairV (w : World) (a b : Val) (w' : World) : Prop := w.heap.size + 1 < w'.heap.size ∧ w'.cell? ⟨w.heap.size, 0, none⟩ = some (.int .i64 a.kind) ∧ w'.cell? ⟨w.heap.size, 1, none⟩ = some (.int .i64 a.mant) ∧ w'.cell? ⟨w.heap.size, 2, none⟩ = some (.int .i64 a.exp) ∧ w'.cell? ⟨w.heap.size, 3, none⟩ = some (.string ⟨a.text.toArray⟩) ∧ w'.cell? ⟨w.heap.size, 4, none⟩ = some (.bool a.truth) ∧ w'.cell? ⟨w.heap.size, 5, none⟩ = some (.int .i64 a.fault) ∧ w'.cell? ⟨w.heap.size + 1, 0, none⟩ = some (.int .i64 b.kind) ∧ w'.cell? ⟨w.heap.size + 1, 1, none⟩ = some (.int .i64 b.mant) ∧ w'.cell? ⟨w.heap.size + 1, 2, none⟩ = some (.int .i64 b.exp) ∧ w'.cell? ⟨w.heap.size + 1, 3, none⟩ = some (.string ⟨b.text.toArray⟩) ∧ w'.cell? ⟨w.heap.size + 1, 4, none⟩ = some (.bool b.truth) ∧ w'.cell? ⟨w.heap.size + 1, 5, none⟩ = some (.int .i64 b.fault) ∧ Below w.heap.size w w'
theorem PairV.start (w : World) (a b : Val) : PairV w a b ((w.alloc (.cells (valC a) 41)).alloc (.cells (valC b) 41)) := by
  have l0 := ((Lies.new w 41 (valC a)).alloc (.cells (valC b) 41)).seen
  have l1 := (Lies.new (w.alloc (.cells (valC a) 41)) 41 (valC b)).seen
  rw [World.size_alloc] at l1
  obtain ⟨p0, p1, p2, p3, p4, p5⟩ := l0
  obtain ⟨q0, q1, q2, q3, q4, q5⟩ := l1
  exact ⟨by simp, p0, p1, p2, p3, p4, p5, q0, q1, q2, q3, q4, q5, ((Below.refl _ w).alloc (Nat.le_refl _) _).alloc (by simp) _⟩
theorem PairV.next {w w' w'' : World} {a b : Val} (h : PairV w a b w') (hb : Below w'.heap.size w' w'') : PairV w a b w'' := by
  obtain ⟨h0, h1, h2, h3, h4, h5, h6, h7, h8, h9, h10, h11, h12, h13⟩ := h
  have hs := hb.size
  have k0 : ∀ i, w''.cell? ⟨w.heap.size, i, none⟩ = w'.cell? ⟨w.heap.size, i, none⟩ := fun i => hb.cell (p := ⟨_, _, none⟩) (by show w.heap.size < _; omega)
  have k1 : ∀ i, w''.cell? ⟨w.heap.size + 1, i, none⟩ = w'.cell? ⟨w.heap.size + 1, i, none⟩ := fun i => hb.cell (p := ⟨_, _, none⟩) (by show w.heap.size + 1 < _; omega)
  exact ⟨by omega, (k0 0).trans h1, (k0 1).trans h2, (k0 2).trans h3, (k0 3).trans h4, (k0 4).trans h5, (k0 5).trans h6, (k1 0).trans h7, (k1 1).trans h8, (k1 2).trans h9, (k1 3).trans h10, (k1 4).trans h11, (k1 5).trans h12, h13.trans (hb.mono h13.size)⟩
theorem PairV.drew {w w' : World} {a b : Val} (h : PairV w a b w') : PairV w a b w'.drew := h.next (Below.refl _ _).drew
set_option maxRecDepth 100000 in
set_option maxHeartbeats 12800000 in
theorem valueCompares_any (a b : Val) (w : World) (ht : Tab w) (a1 : -9223372036854775808 ≤ a.mant) (a2 : a.mant ≤ 9223372036854775807) (a3 : a.text.length ≤ maxLen) (b1 : -9223372036854775808 ≤ b.mant) (b2 : b.mant ≤ 9223372036854775807) (b3 : b.text.length ≤ maxLen) :
    Calls Tryd.prog 9 #[valV a, valV b] w fun e w' => e = .returned (.bool true) ∧ Below w.heap.size w w' := by
  have T0 := Lib.hid (PairV.start w a b)
  have HT0 : Hid (Tab ((w.alloc (.cells (valC a) 41)).alloc (.cells (valC b) 41))) := Lib.hid ((ht.alloc _).alloc _)
  have Hf1 := Lib.hid (fun W => few_any a W a3)
  have Hf2 := Lib.hid (fun W => few_any b W b3)
  have Hr1 := Lib.hid (fun W => rvRight_any a W a1 a2 a3)
  have Hr2 := Lib.hid (fun W => rvRight_any b W b1 b2 b3)
  have HF1 : Hid (vRight a = true → Fit a) := Lib.hid (fun h => fit_right h a1 a2 a3)
  have HF2 : Hid (vRight b = true → Fit b) := Lib.hid (fun h => fit_right h b1 b2 b3)
  clear ht a1 a2 a3 b1 b2 b3
  go_enter Tryd.func9, Tryd.ntmps9
  go_wp2_with fail
  refine (awake02_any _ HT0.out).mono ?_
  rintro e w1 ⟨rfl, hb⟩
  have T1 := Lib.hid (T0.out.next hb)
  have HT1 := Lib.hid (HT0.out.next hb)
  clear hb T0 HT0
  obtain ⟨g0, g1, g2, g3, g4, g5, g6, g7, g8, g9, g10, g11, g12, g13⟩ := T1.out
  go_wp2_with fail
  refine (Hf1.out _).mono ?_
  rintro e w2 ⟨rfl, hb⟩
  have T2 := Lib.hid (T1.out.next hb)
  have HT2 := Lib.hid (HT1.out.next hb)
  clear hb T1 HT1
  clear g0 g1 g2 g3 g4 g5 g6 g7 g8 g9 g10 g11 g12 g13
  cases hq1 : decide (a.text.length ≤ 300)
  · go_wp2_with fail
    refine (awake02_any _ HT2.out).mono ?_
    rintro e wz ⟨rfl, hbz⟩
    have HBz : Hid (Below w.heap.size w wz) := Lib.hid (T2.out.2.2.2.2.2.2.2.2.2.2.2.2.2.trans (hbz.mono T2.out.2.2.2.2.2.2.2.2.2.2.2.2.2.size))
    clear hbz
    go_wp2_with fail
    go_ret
    exact ⟨rfl, HBz.out⟩
  obtain ⟨g0, g1, g2, g3, g4, g5, g6, g7, g8, g9, g10, g11, g12, g13⟩ := T2.out
  go_wp2_with fail
  refine (Hf2.out _).mono ?_
  rintro e w3 ⟨rfl, hb⟩
  have T3 := Lib.hid (T2.out.next hb)
  have HT3 := Lib.hid (HT2.out.next hb)
  clear hb T2 HT2
  clear g0 g1 g2 g3 g4 g5 g6 g7 g8 g9 g10 g11 g12 g13
  cases hq2 : decide (b.text.length ≤ 300)
  · go_wp2_with fail
    refine (awake02_any _ HT3.out).mono ?_
    rintro e wz ⟨rfl, hbz⟩
    have HBz : Hid (Below w.heap.size w wz) := Lib.hid (T3.out.2.2.2.2.2.2.2.2.2.2.2.2.2.trans (hbz.mono T3.out.2.2.2.2.2.2.2.2.2.2.2.2.2.size))
    clear hbz
    go_wp2_with fail
    go_ret
    exact ⟨rfl, HBz.out⟩
  have la : a.text.length ≤ 1000000 := by have := of_decide_eq_true hq1; omega
  have lb : b.text.length ≤ 1000000 := by have := of_decide_eq_true hq2; omega
  have La := Lib.hid la
  have Lb := Lib.hid lb
  clear la lb hq1 hq2 Hf1 Hf2 HT3
  have Cs := Lib.hid (fun W => same02_any a b W)
  have Crs := Lib.hid (fun W => rSame_any a b W)
  generalize vSame a b = q at *
  have hqq : (q != q) = false := by simp
  go_upto_region 3 with fail
  go_cut [24] (fun v wx => v = .bool false ∧ Hid (PairV w a b wx))
  case first =>
    go_region_held3 (fun w' => w.heap.size + 1 < w'.heap.size ∧ w'.cell? ⟨w.heap.size, 0, none⟩ = some (.int .i64 a.kind) ∧ w'.cell? ⟨w.heap.size, 1, none⟩ = some (.int .i64 a.mant) ∧ w'.cell? ⟨w.heap.size, 2, none⟩ = some (.int .i64 a.exp) ∧ w'.cell? ⟨w.heap.size, 3, none⟩ = some (.string ⟨a.text.toArray⟩) ∧ w'.cell? ⟨w.heap.size, 4, none⟩ = some (.bool a.truth) ∧ w'.cell? ⟨w.heap.size, 5, none⟩ = some (.int .i64 a.fault) ∧ w'.cell? ⟨w.heap.size + 1, 0, none⟩ = some (.int .i64 b.kind) ∧ w'.cell? ⟨w.heap.size + 1, 1, none⟩ = some (.int .i64 b.mant) ∧ w'.cell? ⟨w.heap.size + 1, 2, none⟩ = some (.int .i64 b.exp) ∧ w'.cell? ⟨w.heap.size + 1, 3, none⟩ = some (.string ⟨b.text.toArray⟩) ∧ w'.cell? ⟨w.heap.size + 1, 4, none⟩ = some (.bool b.truth) ∧ w'.cell? ⟨w.heap.size + 1, 5, none⟩ = some (.int .i64 b.fault) ∧ Below w.heap.size w w')
      (first | exact T3.out | exact T3.out.drew | exact (PairV.next T3.out.drew hb) | (go_split_ands; exact (PairV.next (w := w) ⟨by assumption, by assumption, by assumption, by assumption, by assumption, by assumption, by assumption, by assumption, by assumption, by assumption, by assumption, by assumption, by assumption, by assumption⟩ hb)))
      (first
        | (go_at_call 36; (with_reducible refine (Cs.out _).mono ?_); rintro e wx ⟨rfl, hb⟩)
        | (go_at_call 27; (with_reducible refine (Crs.out _).mono ?_); rintro e wx ⟨rfl, hb⟩))
    all_goals go_wp2_with fail
    all_goals go_meet
    all_goals refine ⟨rfl, Lib.hid ?_⟩
    all_goals first | assumption | (unfold PairV; assumption) | (go_split_ands; exact ⟨by assumption, by assumption, by assumption, by assumption, by assumption, by assumption, by assumption, by assumption, by assumption, by assumption, by assumption, by assumption, by assumption, by assumption⟩)
  case rest =>
    obtain ⟨rfl, T4⟩ := hcut
    clear T3 Cs Crs hqq
    obtain ⟨g0, g1, g2, g3, g4, g5, g6, g7, g8, g9, g10, g11, g12, g13⟩ := T4.out
    go_wp2_with fail
    refine (Hr1.out _).mono ?_
    rintro e w5 ⟨rfl, hb⟩
    have T5 := Lib.hid (T4.out.next hb)
    clear hb T4
    clear g0 g1 g2 g3 g4 g5 g6 g7 g8 g9 g10 g11 g12 g13
    cases hq4 : vRight a
    · have HBz : Hid (Below w.heap.size w w5) := Lib.hid T5.out.2.2.2.2.2.2.2.2.2.2.2.2.2
      go_wp2_with fail
      go_ret
      exact ⟨rfl, HBz.out⟩
    obtain ⟨g0, g1, g2, g3, g4, g5, g6, g7, g8, g9, g10, g11, g12, g13⟩ := T5.out
    go_wp2_with fail
    refine (Hr2.out _).mono ?_
    rintro e w6 ⟨rfl, hb⟩
    have T6 := Lib.hid (T5.out.next hb)
    clear hb T5
    clear g0 g1 g2 g3 g4 g5 g6 g7 g8 g9 g10 g11 g12 g13
    cases hq5 : vRight b
    · have HBz : Hid (Below w.heap.size w w6) := Lib.hid T6.out.2.2.2.2.2.2.2.2.2.2.2.2.2
      go_wp2_with fail
      go_ret
      exact ⟨rfl, HBz.out⟩
    have aF := Lib.hid (HF1.out hq4)
    have bF := Lib.hid (HF2.out hq5)
    have aK := Lib.hid (kinds_right hq4)
    have bK := Lib.hid (kinds_right hq5)
    clear hq4 hq5 HF1 HF2 Hr1 Hr2
    have C1 := Lib.hid (fun W => compare_any a b W aF.out bF.out)
    have C2 := Lib.hid (fun W => rcompare_any a b W aF.out bF.out aK.out bK.out La.out Lb.out)
    have C3 := Lib.hid (fun W => order_any a b W aF.out bF.out)
    have C4 := Lib.hid (fun W => rorder_any a b W aF.out bF.out aK.out bK.out La.out Lb.out)
    clear aF bF aK bK La Lb
    generalize pCompare a b = r1 at *
    generalize pOrder a b = r2 at *
    have e1 : (r1 == r1) = true := by simp
    have e2 : (r2 == r2) = true := by simp
    go_upto_region 7 with fail
    go_region_held3 (fun w' => w.heap.size + 1 < w'.heap.size ∧ w'.cell? ⟨w.heap.size, 0, none⟩ = some (.int .i64 a.kind) ∧ w'.cell? ⟨w.heap.size, 1, none⟩ = some (.int .i64 a.mant) ∧ w'.cell? ⟨w.heap.size, 2, none⟩ = some (.int .i64 a.exp) ∧ w'.cell? ⟨w.heap.size, 3, none⟩ = some (.string ⟨a.text.toArray⟩) ∧ w'.cell? ⟨w.heap.size, 4, none⟩ = some (.bool a.truth) ∧ w'.cell? ⟨w.heap.size, 5, none⟩ = some (.int .i64 a.fault) ∧ w'.cell? ⟨w.heap.size + 1, 0, none⟩ = some (.int .i64 b.kind) ∧ w'.cell? ⟨w.heap.size + 1, 1, none⟩ = some (.int .i64 b.mant) ∧ w'.cell? ⟨w.heap.size + 1, 2, none⟩ = some (.int .i64 b.exp) ∧ w'.cell? ⟨w.heap.size + 1, 3, none⟩ = some (.string ⟨b.text.toArray⟩) ∧ w'.cell? ⟨w.heap.size + 1, 4, none⟩ = some (.bool b.truth) ∧ w'.cell? ⟨w.heap.size + 1, 5, none⟩ = some (.int .i64 b.fault) ∧ Below w.heap.size w w')
      (first | exact T6.out | exact T6.out.drew | exact (PairV.next T6.out.drew hb) | (go_split_ands; exact (PairV.next (w := w) ⟨by assumption, by assumption, by assumption, by assumption, by assumption, by assumption, by assumption, by assumption, by assumption, by assumption, by assumption, by assumption, by assumption, by assumption⟩ hb)))
      (first
        | (go_at_call 35; (with_reducible refine (C1.out _).mono ?_); rintro e wx ⟨rfl, hb⟩)
        | (go_at_call 37; (with_reducible refine (C2.out _).mono ?_); rintro e wx ⟨rfl, hb⟩)
        | (go_at_call 26; (with_reducible refine (C3.out _).mono ?_); rintro e wx ⟨rfl, hb⟩)
        | (go_at_call 38; (with_reducible refine (C4.out _).mono ?_); rintro e wx ⟨rfl, hb⟩))
    all_goals go_wp2_with fail
    all_goals go_ret
    all_goals refine ⟨rfl, ?_⟩
    all_goals first | assumption | (go_split_ands; assumption)
end Go.Proofs.YtcgdeoldgnjdeaaDoor
