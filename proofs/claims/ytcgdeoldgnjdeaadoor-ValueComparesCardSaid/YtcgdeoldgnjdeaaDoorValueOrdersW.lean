/-
  counterpanelaw02.ValueOrders: the walk.
-/
import Derived.Test.YtcgdeoldgnjdeaaDoorRefB1
import Derived.Test.YtcgdeoldgnjdeaaDoorVal8
namespace Go.Proofs.YtcgdeoldgnjdeaaDoor
open Go.RowKit

theorem fit_right {v : Val} (h : vRight v = true) (h1 : -9223372036854775808 ≤ v.mant) (h2 : v.mant ≤ 9223372036854775807) (hl : v.text.length ≤ maxLen) : Fit v := by
  refine ⟨h1, h2, fun hk => ?_, hl⟩
  unfold vRight at h
  rw [Bool.and_eq_true, if_pos hk] at h
  exact h.2
theorem lex2_bd {x y : Int} (hx : -1 ≤ x ∧ x ≤ 1) (hy : -1 ≤ y ∧ y ≤ 1) : -1 ≤ lex2 x y ∧ lex2 x y ≤ 1 := by unfold lex2; split <;> assumption
theorem cmpN_bd (x y : Int) : -1 ≤ cmpN x y ∧ cmpN x y ≤ 1 := by
  unfold cmpN
  split
  · omega
  · split <;> omega
theorem cmpB_bd (x y : Bs) : -1 ≤ cmpB x y ∧ cmpB x y ≤ 1 := by
  induction x generalizing y with
  | nil => cases y <;> simp [cmpB, Lib.compareBytes]
  | cons a x ih =>
    cases y with
    | nil => simp [cmpB, Lib.compareBytes]
    | cons b y => rw [cmpB_cons]; exact lex2_bd (cmpN_bd _ _) (ih y)
theorem pOrder_bd (a b : Val) (fa : Fit a) (fb : Fit b) : -1 ≤ pOrder a b ∧ pOrder a b ≤ 1 := by
  rw [pOrder_lex]
  refine lex2_bd (cmpN_bd _ _) ?_
  split
  · omega
  · rw [pCmp2_lex]
    by_cases hk : a.kind = b.kind
    · refine lex2_bd (cmpN_bd _ _) ?_
      unfold pCmpKind
      split
      · rename_i h1
        rw [pCmp_eq _ _ _ _ (fa.num h1) (fb.num (by omega))]
        exact cmpN_bd _ _
      · split
        · exact cmpB_bd _ _
        · split
          · rw [truthOrder_key]; exact cmpN_bd _ _
          · split
            · exact cmpN_bd _ _
            · omega
    · unfold lex2
      rw [if_neg (by unfold cmpN; split; omega; split <;> omega)]
      exact cmpN_bd _ _
/-- three values in three boxes of the call's own -/
def ThreeVal (w : World) (a b c : Val) (w' : World) : Prop := w.heap.size + 2 < w'.heap.size ∧ w'.cell? ⟨w.heap.size, 0, none⟩ = some (.int .i64 a.kind) ∧ w'.cell? ⟨w.heap.size, 1, none⟩ = some (.int .i64 a.mant) ∧ w'.cell? ⟨w.heap.size, 2, none⟩ = some (.int .i64 a.exp) ∧ w'.cell? ⟨w.heap.size, 3, none⟩ = some (.string ⟨a.text.toArray⟩) ∧ w'.cell? ⟨w.heap.size, 4, none⟩ = some (.bool a.truth) ∧ w'.cell? ⟨w.heap.size, 5, none⟩ = some (.int .i64 a.fault) ∧ w'.cell? ⟨w.heap.size + 1, 0, none⟩ = some (.int .i64 b.kind) ∧ w'.cell? ⟨w.heap.size + 1, 1, none⟩ = some (.int .i64 b.mant) ∧ w'.cell? ⟨w.heap.size + 1, 2, none⟩ = some (.int .i64 b.exp) ∧ w'.cell? ⟨w.heap.size + 1, 3, none⟩ = some (.string ⟨b.text.toArray⟩) ∧ w'.cell? ⟨w.heap.size + 1, 4, none⟩ = some (.bool b.truth) ∧ w'.cell? ⟨w.heap.size + 1, 5, none⟩ = some (.int .i64 b.fault) ∧ w'.cell? ⟨w.heap.size + 2, 0, none⟩ = some (.int .i64 c.kind) ∧ w'.cell? ⟨w.heap.size + 2, 1, none⟩ = some (.int .i64 c.mant) ∧ w'.cell? ⟨w.heap.size + 2, 2, none⟩ = some (.int .i64 c.exp) ∧ w'.cell? ⟨w.heap.size + 2, 3, none⟩ = some (.string ⟨c.text.toArray⟩) ∧ w'.cell? ⟨w.heap.size + 2, 4, none⟩ = some (.bool c.truth) ∧ w'.cell? ⟨w.heap.size + 2, 5, none⟩ = some (.int .i64 c.fault) ∧ Below w.heap.size w w'
theorem ThreeVal.start (w : World) (a b c : Val) : ThreeVal w a b c (((w.alloc (.cells (valC a) 41)).alloc (.cells (valC b) 41)).alloc (.cells (valC c) 41)) := by
  have l0 := (((Lies.new w 41 (valC a)).alloc (.cells (valC b) 41)).alloc (.cells (valC c) 41)).seen
  have l1 := ((Lies.new (w.alloc (.cells (valC a) 41)) 41 (valC b)).alloc (.cells (valC c) 41)).seen
  have l2 := (Lies.new ((w.alloc (.cells (valC a) 41)).alloc (.cells (valC b) 41)) 41 (valC c)).seen
  rw [World.size_alloc] at l1
  rw [World.size_alloc, World.size_alloc] at l2
  obtain ⟨p0, p1, p2, p3, p4, p5⟩ := l0
  obtain ⟨q0, q1, q2, q3, q4, q5⟩ := l1
  obtain ⟨r0, r1, r2, r3, r4, r5⟩ := l2
  exact ⟨by simp, p0, p1, p2, p3, p4, p5, q0, q1, q2, q3, q4, q5, r0, r1, r2, r3, r4, r5, (((Below.refl _ w).alloc (Nat.le_refl _) _).alloc (by simp) _).alloc (by simp; omega) _⟩
theorem ThreeVal.next {w w' w'' : World} {a b c : Val} (h : ThreeVal w a b c w') (hb : Below w'.heap.size w' w'') : ThreeVal w a b c w'' := by
  obtain ⟨h0, h1, h2, h3, h4, h5, h6, h7, h8, h9, h10, h11, h12, h13, h14, h15, h16, h17, h18, h19⟩ := h
  have hs := hb.size
  have k0 : ∀ i, w''.cell? ⟨w.heap.size, i, none⟩ = w'.cell? ⟨w.heap.size, i, none⟩ := fun i => hb.cell (p := ⟨_, _, none⟩) (by show w.heap.size < _; omega)
  have k1 : ∀ i, w''.cell? ⟨w.heap.size + 1, i, none⟩ = w'.cell? ⟨w.heap.size + 1, i, none⟩ := fun i => hb.cell (p := ⟨_, _, none⟩) (by show w.heap.size + 1 < _; omega)
  have k2 : ∀ i, w''.cell? ⟨w.heap.size + 2, i, none⟩ = w'.cell? ⟨w.heap.size + 2, i, none⟩ := fun i => hb.cell (p := ⟨_, _, none⟩) (by show w.heap.size + 2 < _; omega)
  exact ⟨by omega, (k0 0).trans h1, (k0 1).trans h2, (k0 2).trans h3, (k0 3).trans h4, (k0 4).trans h5, (k0 5).trans h6, (k1 0).trans h7, (k1 1).trans h8, (k1 2).trans h9, (k1 3).trans h10, (k1 4).trans h11, (k1 5).trans h12, (k2 0).trans h13, (k2 1).trans h14, (k2 2).trans h15, (k2 3).trans h16, (k2 4).trans h17, (k2 5).trans h18, h19.trans (hb.mono h19.size)⟩
theorem ThreeVal.drew {w w' : World} {a b c : Val} (h : ThreeVal w a b c w') : ThreeVal w a b c w'.drew := h.next (Below.refl _ _).drew
set_option maxRecDepth 100000 in
set_option maxHeartbeats 12800000 in
theorem valueOrders_any (a b c : Val) (w : World) (ht : Tab w) (a1 : -9223372036854775808 ≤ a.mant) (a2 : a.mant ≤ 9223372036854775807) (a3 : a.text.length ≤ maxLen) (b1 : -9223372036854775808 ≤ b.mant) (b2 : b.mant ≤ 9223372036854775807) (b3 : b.text.length ≤ maxLen)
    (c1 : -9223372036854775808 ≤ c.mant) (c2 : c.mant ≤ 9223372036854775807) (c3 : c.text.length ≤ maxLen) :
    Calls Tryd.prog 6 #[valV a, valV b, valV c] w fun e w' => e = .returned (.bool true) ∧ Below w.heap.size w w' := by
  have HT := Lib.hid ht
  have T0 := Lib.hid (ThreeVal.start w a b c)
  have Hf1 := Lib.hid (fun W => few_any a W a3)
  have Hf2 := Lib.hid (fun W => few_any b W b3)
  have Hf3 := Lib.hid (fun W => few_any c W c3)
  have Hr1 := Lib.hid (fun W => rvRight_any a W a1 a2 a3)
  have Hr2 := Lib.hid (fun W => rvRight_any b W b1 b2 b3)
  have Hr3 := Lib.hid (fun W => rvRight_any c W c1 c2 c3)
  have HF1 : Hid (vRight a = true → Fit a) := Lib.hid (fun h => fit_right h a1 a2 a3)
  have HF2 : Hid (vRight b = true → Fit b) := Lib.hid (fun h => fit_right h b1 b2 b3)
  have HF3 : Hid (vRight c = true → Fit c) := Lib.hid (fun h => fit_right h c1 c2 c3)
  have HT0 : Hid (Tab (((w.alloc (.cells (valC a) 41)).alloc (.cells (valC b) 41)).alloc (.cells (valC c) 41))) := Lib.hid (((ht.alloc _).alloc _).alloc _)
  clear ht a1 a2 a3 b1 b2 b3 c1 c2 c3 HT
  go_enter Tryd.func6, Tryd.ntmps6
  go_wp2_with fail
  refine (awake02_any _ HT0.out).mono ?_
  rintro e w1 ⟨rfl, hb1⟩
  have T1 := Lib.hid (T0.out.next hb1)
  have HT1 := Lib.hid (HT0.out.next hb1)
  clear hb1 T0 HT0
  obtain ⟨g0, g1, g2, g3, g4, g5, g6, g7, g8, g9, g10, g11, g12, g13, g14, g15, g16, g17, g18, g19⟩ := T1.out
  go_wp2_with fail
  refine (Hf1.out _).mono ?_
  rintro e w2 ⟨rfl, hb⟩
  have T2 := Lib.hid (T1.out.next hb)
  have HT2 := Lib.hid (HT1.out.next hb)
  clear hb T1 HT1
  clear g0 g1 g2 g3 g4 g5 g6 g7 g8 g9 g10 g11 g12 g13 g14 g15 g16 g17 g18 g19
  cases hq1 : decide (a.text.length ≤ 300)
  · go_wp2_with fail
    refine (awake02_any _ HT2.out).mono ?_
    rintro e wz ⟨rfl, hbz⟩
    have HBz : Hid (Below w.heap.size w wz) := Lib.hid (T2.out.2.2.2.2.2.2.2.2.2.2.2.2.2.2.2.2.2.2.2.trans (hbz.mono T2.out.2.2.2.2.2.2.2.2.2.2.2.2.2.2.2.2.2.2.2.size))
    clear hbz
    go_wp2_with fail
    go_ret
    exact ⟨rfl, HBz.out⟩
  clear hq1
  obtain ⟨g0, g1, g2, g3, g4, g5, g6, g7, g8, g9, g10, g11, g12, g13, g14, g15, g16, g17, g18, g19⟩ := T2.out
  go_wp2_with fail
  refine (Hf2.out _).mono ?_
  rintro e w3 ⟨rfl, hb⟩
  have T3 := Lib.hid (T2.out.next hb)
  have HT3 := Lib.hid (HT2.out.next hb)
  clear hb T2 HT2
  clear g0 g1 g2 g3 g4 g5 g6 g7 g8 g9 g10 g11 g12 g13 g14 g15 g16 g17 g18 g19
  cases hq2 : decide (b.text.length ≤ 300)
  · go_wp2_with fail
    refine (awake02_any _ HT3.out).mono ?_
    rintro e wz ⟨rfl, hbz⟩
    have HBz : Hid (Below w.heap.size w wz) := Lib.hid (T3.out.2.2.2.2.2.2.2.2.2.2.2.2.2.2.2.2.2.2.2.trans (hbz.mono T3.out.2.2.2.2.2.2.2.2.2.2.2.2.2.2.2.2.2.2.2.size))
    clear hbz
    go_wp2_with fail
    go_ret
    exact ⟨rfl, HBz.out⟩
  clear hq2
  obtain ⟨g0, g1, g2, g3, g4, g5, g6, g7, g8, g9, g10, g11, g12, g13, g14, g15, g16, g17, g18, g19⟩ := T3.out
  go_wp2_with fail
  refine (Hf3.out _).mono ?_
  rintro e w4 ⟨rfl, hb⟩
  have T4 := Lib.hid (T3.out.next hb)
  have HT4 := Lib.hid (HT3.out.next hb)
  clear hb T3 HT3
  clear g0 g1 g2 g3 g4 g5 g6 g7 g8 g9 g10 g11 g12 g13 g14 g15 g16 g17 g18 g19
  cases hq3 : decide (c.text.length ≤ 300)
  · go_wp2_with fail
    refine (awake02_any _ HT4.out).mono ?_
    rintro e wz ⟨rfl, hbz⟩
    have HBz : Hid (Below w.heap.size w wz) := Lib.hid (T4.out.2.2.2.2.2.2.2.2.2.2.2.2.2.2.2.2.2.2.2.trans (hbz.mono T4.out.2.2.2.2.2.2.2.2.2.2.2.2.2.2.2.2.2.2.2.size))
    clear hbz
    go_wp2_with fail
    go_ret
    exact ⟨rfl, HBz.out⟩
  clear hq3
  obtain ⟨g0, g1, g2, g3, g4, g5, g6, g7, g8, g9, g10, g11, g12, g13, g14, g15, g16, g17, g18, g19⟩ := T4.out
  go_wp2_with fail
  refine (Hr1.out _).mono ?_
  rintro e w5 ⟨rfl, hb⟩
  have T5 := Lib.hid (T4.out.next hb)
  have HT5 := Lib.hid (HT4.out.next hb)
  clear hb T4 HT4
  clear g0 g1 g2 g3 g4 g5 g6 g7 g8 g9 g10 g11 g12 g13 g14 g15 g16 g17 g18 g19
  cases hq4 : vRight a
  · go_wp2_with fail
    refine (awake02_any _ HT5.out).mono ?_
    rintro e wz ⟨rfl, hbz⟩
    have HBz : Hid (Below w.heap.size w wz) := Lib.hid (T5.out.2.2.2.2.2.2.2.2.2.2.2.2.2.2.2.2.2.2.2.trans (hbz.mono T5.out.2.2.2.2.2.2.2.2.2.2.2.2.2.2.2.2.2.2.2.size))
    clear hbz
    go_wp2_with fail
    go_ret
    exact ⟨rfl, HBz.out⟩
  have aF := Lib.hid (HF1.out hq4)
  clear hq4
  obtain ⟨g0, g1, g2, g3, g4, g5, g6, g7, g8, g9, g10, g11, g12, g13, g14, g15, g16, g17, g18, g19⟩ := T5.out
  go_wp2_with fail
  refine (Hr2.out _).mono ?_
  rintro e w6 ⟨rfl, hb⟩
  have T6 := Lib.hid (T5.out.next hb)
  have HT6 := Lib.hid (HT5.out.next hb)
  clear hb T5 HT5
  clear g0 g1 g2 g3 g4 g5 g6 g7 g8 g9 g10 g11 g12 g13 g14 g15 g16 g17 g18 g19
  cases hq5 : vRight b
  · go_wp2_with fail
    refine (awake02_any _ HT6.out).mono ?_
    rintro e wz ⟨rfl, hbz⟩
    have HBz : Hid (Below w.heap.size w wz) := Lib.hid (T6.out.2.2.2.2.2.2.2.2.2.2.2.2.2.2.2.2.2.2.2.trans (hbz.mono T6.out.2.2.2.2.2.2.2.2.2.2.2.2.2.2.2.2.2.2.2.size))
    clear hbz
    go_wp2_with fail
    go_ret
    exact ⟨rfl, HBz.out⟩
  have bF := Lib.hid (HF2.out hq5)
  clear hq5
  obtain ⟨g0, g1, g2, g3, g4, g5, g6, g7, g8, g9, g10, g11, g12, g13, g14, g15, g16, g17, g18, g19⟩ := T6.out
  go_wp2_with fail
  refine (Hr3.out _).mono ?_
  rintro e w7 ⟨rfl, hb⟩
  have T7 := Lib.hid (T6.out.next hb)
  have HT7 := Lib.hid (HT6.out.next hb)
  clear hb T6 HT6
  clear g0 g1 g2 g3 g4 g5 g6 g7 g8 g9 g10 g11 g12 g13 g14 g15 g16 g17 g18 g19
  cases hq6 : vRight c
  · go_wp2_with fail
    refine (awake02_any _ HT7.out).mono ?_
    rintro e wz ⟨rfl, hbz⟩
    have HBz : Hid (Below w.heap.size w wz) := Lib.hid (T7.out.2.2.2.2.2.2.2.2.2.2.2.2.2.2.2.2.2.2.2.trans (hbz.mono T7.out.2.2.2.2.2.2.2.2.2.2.2.2.2.2.2.2.2.2.2.size))
    clear hbz
    go_wp2_with fail
    go_ret
    exact ⟨rfl, HBz.out⟩
  have cF := Lib.hid (HF3.out hq6)
  clear hq6
  obtain ⟨g0, g1, g2, g3, g4, g5, g6, g7, g8, g9, g10, g11, g12, g13, g14, g15, g16, g17, g18, g19⟩ := T7.out
  have Cab := Lib.hid (fun W => order_any a b W aF.out bF.out)
  have Cbc := Lib.hid (fun W => order_any b c W bF.out cF.out)
  have Cac := Lib.hid (fun W => order_any a c W aF.out cF.out)
  have Cba := Lib.hid (fun W => order_any b a W bF.out aF.out)
  have Caa := Lib.hid (fun W => order_any a a W aF.out aF.out)
  have hO := pOrder_o3 a b c aF.out bF.out cF.out
  obtain ⟨x1, x2⟩ := pOrder_bd a b aF.out bF.out
  rw [hO.flip] at Cba
  rw [hO.self] at Caa
  have Hl := Lib.hid hO.l
  have Hr := Lib.hid hO.r
  have Ht := Lib.hid hO.t
  clear hO aF bF cF Hf1 Hf2 Hf3 Hr1 Hr2 Hr3 HF1 HF2 HF3 HT7
  generalize pOrder a b = x at *
  generalize pOrder b c = y at *
  generalize pOrder a c = z at *
  go_upto_region 3 with fail
  go_cut [7, 8, 9] (fun v7 v8 v9 wx => v7 = .int .i64 x ∧ v8 = .int .i64 y ∧ v9 = .int .i64 z ∧ Hid (ThreeVal w a b c wx))
  case first =>
    clear g0 g1 g2 g3 g4 g5 g6 g7 g8 g9 g10 g11 g12 g13 g14 g15 g16 g17 g18 g19
    go_region_held3 (fun w' => w.heap.size + 2 < w'.heap.size ∧ w'.cell? ⟨w.heap.size, 0, none⟩ = some (.int .i64 a.kind) ∧ w'.cell? ⟨w.heap.size, 1, none⟩ = some (.int .i64 a.mant) ∧ w'.cell? ⟨w.heap.size, 2, none⟩ = some (.int .i64 a.exp) ∧ w'.cell? ⟨w.heap.size, 3, none⟩ = some (.string ⟨a.text.toArray⟩) ∧ w'.cell? ⟨w.heap.size, 4, none⟩ = some (.bool a.truth) ∧ w'.cell? ⟨w.heap.size, 5, none⟩ = some (.int .i64 a.fault) ∧ w'.cell? ⟨w.heap.size + 1, 0, none⟩ = some (.int .i64 b.kind) ∧ w'.cell? ⟨w.heap.size + 1, 1, none⟩ = some (.int .i64 b.mant) ∧ w'.cell? ⟨w.heap.size + 1, 2, none⟩ = some (.int .i64 b.exp) ∧ w'.cell? ⟨w.heap.size + 1, 3, none⟩ = some (.string ⟨b.text.toArray⟩) ∧ w'.cell? ⟨w.heap.size + 1, 4, none⟩ = some (.bool b.truth) ∧ w'.cell? ⟨w.heap.size + 1, 5, none⟩ = some (.int .i64 b.fault) ∧ w'.cell? ⟨w.heap.size + 2, 0, none⟩ = some (.int .i64 c.kind) ∧ w'.cell? ⟨w.heap.size + 2, 1, none⟩ = some (.int .i64 c.mant) ∧ w'.cell? ⟨w.heap.size + 2, 2, none⟩ = some (.int .i64 c.exp) ∧ w'.cell? ⟨w.heap.size + 2, 3, none⟩ = some (.string ⟨c.text.toArray⟩) ∧ w'.cell? ⟨w.heap.size + 2, 4, none⟩ = some (.bool c.truth) ∧ w'.cell? ⟨w.heap.size + 2, 5, none⟩ = some (.int .i64 c.fault) ∧ Below w.heap.size w w')
      (first | exact T7.out | exact T7.out.drew | exact (ThreeVal.next T7.out.drew hb) | (go_split_ands; exact (ThreeVal.next (w := w) ⟨by assumption, by assumption, by assumption, by assumption, by assumption, by assumption, by assumption, by assumption, by assumption, by assumption, by assumption, by assumption, by assumption, by assumption, by assumption, by assumption, by assumption, by assumption, by assumption, by assumption⟩ hb)))
      (first
        | (go_at_call 26; (with_reducible refine (Cab.out _).mono ?_); rintro e wx ⟨rfl, hb⟩)
        | (go_at_call 26; (with_reducible refine (Cbc.out _).mono ?_); rintro e wx ⟨rfl, hb⟩)
        | (go_at_call 26; (with_reducible refine (Cac.out _).mono ?_); rintro e wx ⟨rfl, hb⟩))
    all_goals go_wp2_with fail
    all_goals go_meet
    all_goals refine ⟨rfl, rfl, rfl, Lib.hid ?_⟩
    all_goals first | assumption | (unfold ThreeVal; assumption) | (go_split_ands; exact ⟨by assumption, by assumption, by assumption, by assumption, by assumption, by assumption, by assumption, by assumption, by assumption, by assumption, by assumption, by assumption, by assumption, by assumption, by assumption, by assumption, by assumption, by assumption, by assumption, by assumption⟩)
  case rest =>
    obtain ⟨rfl, rfl, rfl, T8⟩ := hcut
    clear g0 g1 g2 g3 g4 g5 g6 g7 g8 g9 g10 g11 g12 g13 g14 g15 g16 g17 g18 g19
    clear T7
    obtain ⟨g0, g1, g2, g3, g4, g5, g6, g7, g8, g9, g10, g11, g12, g13, g14, g15, g16, g17, g18, g19⟩ := T8.out
    have hneg : IntKind.i64.wrap (-x) = -x := IntWalk.i64_in _ (by omega)
    have hnx : (-x != -x) = false := by simp
    go_wp2_with fail
    refine (Cba.out _).mono ?_
    rintro e w9 ⟨rfl, hb⟩
    have T9 := Lib.hid (T8.out.next hb)
    clear hb T8 Cba
    clear g0 g1 g2 g3 g4 g5 g6 g7 g8 g9 g10 g11 g12 g13 g14 g15 g16 g17 g18 g19
    obtain ⟨g0, g1, g2, g3, g4, g5, g6, g7, g8, g9, g10, g11, g12, g13, g14, g15, g16, g17, g18, g19⟩ := T9.out
    go_wp2_with fail
    refine (Caa.out _).mono ?_
    rintro e w10 ⟨rfl, hb⟩
    have T10 := Lib.hid (T9.out.next hb)
    have HB : Hid (Below w.heap.size w w10) := Lib.hid T10.out.2.2.2.2.2.2.2.2.2.2.2.2.2.2.2.2.2.2.2
    clear hb T9 Caa Cab Cbc Cac T10
    clear g0 g1 g2 g3 g4 g5 g6 g7 g8 g9 g10 g11 g12 g13 g14 g15 g16 g17 g18 g19
    have hz : z = z := rfl
    clear hz
    by_cases hx0 : x = 0
    · have hyz := Hl.out hx0
      subst hyz
      have e1 : (y != y) = false := by simp
      have e2 : (x == 0) = true := by rw [beq_iff_eq]; exact hx0
      by_cases hy0 : y = 0
      · subst hy0
        subst hx0
        go_wp2_with fail
        go_ret
        exact ⟨rfl, HB.out⟩
      · have e3 : (y == 0) = false := by rw [beq_eq_false_iff_ne]; exact hy0
        have e4 : (x != y) = true := by rw [bne_iff_ne, hx0]; exact fun h => hy0 h.symm
        subst hx0
        go_wp2_with fail
        go_ret
        exact ⟨rfl, HB.out⟩
    · have e2 : (x == 0) = false := by rw [beq_eq_false_iff_ne]; exact hx0
      by_cases hy0 : y = 0
      · have hxz := Hr.out hy0
        subst hxz
        have e4 : (x != x) = false := by simp
        have e5 : (x != 0) = true := by rw [bne_iff_ne]; exact hx0
        subst hy0
        go_wp2_with fail
        go_ret
        exact ⟨rfl, HB.out⟩
      · have e3 : (y == 0) = false := by rw [beq_eq_false_iff_ne]; exact hy0
        by_cases hxy : x = y
        · have hxz := Ht.out hxy
          subst hxy
          subst hxz
          have e4 : (x != x) = false := by simp
          have e6 : (x == x) = true := by simp
          go_wp2_with fail
          go_ret
          exact ⟨rfl, HB.out⟩
        · have e4 : (x != y) = true := by rw [bne_iff_ne]; exact hxy
          go_wp2_with fail
          go_ret
          exact ⟨rfl, HB.out⟩
end Go.Proofs.YtcgdeoldgnjdeaaDoor
