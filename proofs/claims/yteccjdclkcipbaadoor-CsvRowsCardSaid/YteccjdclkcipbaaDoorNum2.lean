/-
  num.cmpSize, Cmp: what they return.
-/
import Derived.Test.YteccjdclkcipbaaDoorNum1
namespace Go.Proofs.YteccjdclkcipbaaDoor
open Go.RowKit

theorem power_at (k : Int) (w : World) (h0 : 0 ≤ k) (h : k ≤ 15) :
    Calls Tryd.prog 84 #[.int .i64 k] w fun e w' => e = .returned (.int .u64 (p10 k.toNat : Int)) ∧ w = w' := by
  obtain ⟨n, rfl⟩ := Int.eq_ofNat_of_zero_le h0
  exact power_any n w (by omega)
set_option maxRecDepth 100000 in
set_option maxHeartbeats 1600000 in
theorem cmpSize_any (m1 e1 m2 e2 : Int) (w : World) (h1 : pRight m1 e1 = true) (h2 : pRight m2 e2 = true) (h0 : m1 = 0 ∨ m2 ≠ 0) :
    Calls Tryd.prog 51 #[numV m1 e1, numV m2 e2] w fun x w' => x = .returned (.int .i64 (pCmpSize m1 e1 m2 e2)) ∧ Below w.heap.size w w' := by
  have hB : Below w.heap.size w ((w.alloc (.cells #[.int .i64 m1, .int .i64 e1] 23)).alloc (.cells #[.int .i64 m2, .int .i64 e2] 23)) := ((Below.refl _ w).alloc (Nat.le_refl _) _).alloc (by simp) _
  have HB := Lib.hid hB
  clear hB
  by_cases hz : m1 = 0
  · have hr : pCmpSize m1 e1 m2 e2 = 0 := if_pos hz
    rw [hr]
    subst hz
    clear hr h1 h2 h0
    go_enter Tryd.func51, Tryd.ntmps51
    go_wp2_with fail
    go_ret
    exact ⟨rfl, HB.out⟩
  · have hz2 : m2 ≠ 0 := by rcases h0 with h | h; exact absurd h hz; exact h
    obtain ⟨a1, a2, a3, a4, a5⟩ := pRight_of h1 hz
    obtain ⟨c1, c2, c3, c4, c5⟩ := pRight_of h2 hz2
    have hr : pCmpSize m1 e1 m2 e2 = if (digs m1.natAbs : Int) + e1 = (digs m2.natAbs : Int) + e2 then cmpN (norm m1.natAbs) (norm m2.natAbs) else cmpN ((digs m1.natAbs : Int) + e1) ((digs m2.natAbs : Int) + e2) := if_neg hz
    have HR := Lib.hid hr
    have hN1 : norm m1.natAbs = m1.natAbs * p10 (15 - digs m1.natAbs) := rfl
    have hN2 : norm m2.natAbs = m2.natAbs * p10 (15 - digs m2.natAbs) := rfl
    have HN1 := Lib.hid hN1
    have HN2 := Lib.hid hN2
    have b0 : (m1 == 0) = false := by rw [beq_eq_false_iff_ne]; exact hz
    have hd1 := digs_le m1.natAbs
    have hd2 := digs_le m2.natAbs
    have hf1 := digs_15 _ a1
    have hf2 := digs_15 _ c1
    have hl1 := norm_lt _ a1
    have hl2 := norm_lt _ c1
    have hs1 := Lib.hid (fun W => size_any m1 W (by omega) (by omega))
    have hs2 := Lib.hid (fun W => size_any m2 W (by omega) (by omega))
    have HX1 : Hid (m1.natAbs < 18446744073709551616) := Lib.hid (by omega)
    have HX2 : Hid (m2.natAbs < 18446744073709551616) := Lib.hid (by omega)
    have HL1 := Lib.hid hl1
    have HL2 := Lib.hid hl2
    generalize pCmpSize m1 e1 m2 e2 = r at *
    clear hr h1 h2 h0 hz hz2 a1 a2 c1 c2 hN1 hN2 hl1 hl2
    go_enter Tryd.func51, Tryd.ntmps51
    go_wp2_with fail
    go_quiet (first | (go_at_call_of 40 m1; exact quiet_left (hs1.out _)) | (go_at_call_of 40 m2; exact quiet_left (hs2.out _)))
    go_wp2_with fail
    refine (count_any _ _ HX1.out).mono ?_
    rintro e w' ⟨rfl, rfl⟩
    go_wp2_with fail
    refine (count_any _ _ HX2.out).mono ?_
    rintro e w' ⟨rfl, rfl⟩
    generalize digs m1.natAbs = d1 at *
    generalize digs m2.natAbs = d2 at *
    have i1 : IntKind.i64.wrap ((d1 : Int) + e1) = (d1 : Int) + e1 := IntWalk.i64_in _ (by omega)
    have i2 : IntKind.i64.wrap ((d2 : Int) + e2) = (d2 : Int) + e2 := IntWalk.i64_in _ (by omega)
    go_wp2_with fail
    go_quiet (fail)
    clear i1 i2
    by_cases ht : (d1 : Int) + e1 = (d2 : Int) + e2
    · rw [if_pos ht] at HR
      have b1 : ((d1 : Int) + e1 != (d2 : Int) + e2) = false := by rw [bne_eq_false_iff_eq]; exact ht
      have HTT := Lib.hid ht
      clear ht
      have t1 : (15 - (d1 : Int)).toNat = 15 - d1 := by omega
      have t2 : (15 - (d2 : Int)).toNat = 15 - d2 := by omega
      have hw1 : IntKind.u64.wrap ((m1.natAbs : Int) * (p10 (15 - d1) : Int)) = ((norm m1.natAbs : Nat) : Int) := by
        rw [← Int.natCast_mul, ← HN1.out]
        exact u64_wrap _ (by have := HL1.out; omega)
      have hw2 : IntKind.u64.wrap ((m2.natAbs : Int) * (p10 (15 - d2) : Int)) = ((norm m2.natAbs : Nat) : Int) := by
        rw [← Int.natCast_mul, ← HN2.out]
        exact u64_wrap _ (by have := HL2.out; omega)
      clear HN1 HN2 HL1 HL2
      generalize norm m1.natAbs = y1 at *
      generalize norm m2.natAbs = y2 at *
      go_wp2_with fail
      refine (power_at _ _ (by omega) (by omega)).mono ?_
      rintro e w' ⟨rfl, rfl⟩
      rw [t1]
      go_wp2_with fail
      refine (power_at _ _ (by omega) (by omega)).mono ?_
      rintro e w' ⟨rfl, rfl⟩
      rw [t2]
      by_cases hl : (y1 : Int) < (y2 : Int)
      · have hc : Hid (r = -1) := Lib.hid (by rw [HR.out]; exact if_pos hl)
        clear HR t1 t2
        go_wp2_with fail
        go_ret
        exact ⟨ret_int (by rw [hc.out]), below_drewN HB.out _⟩
      · by_cases hg : (y2 : Int) < (y1 : Int)
        · have hc : Hid (r = 1) := Lib.hid (by rw [HR.out]; unfold cmpN; rw [if_neg hl, if_pos hg])
          clear HR t1 t2
          go_wp2_with fail
          go_ret
          exact ⟨ret_int (by rw [hc.out]), below_drewN HB.out _⟩
        · have hc : Hid (r = 0) := Lib.hid (by rw [HR.out]; unfold cmpN; rw [if_neg hl, if_neg hg])
          clear HR t1 t2
          go_wp2_with fail
          go_ret
          exact ⟨ret_int (by rw [hc.out]), below_drewN HB.out _⟩
    · rw [if_neg ht] at HR
      have b1 : ((d1 : Int) + e1 != (d2 : Int) + e2) = true := by rw [bne_iff_ne]; exact ht
      by_cases hl : (d1 : Int) + e1 < (d2 : Int) + e2
      · have hc : Hid (r = -1) := Lib.hid (by rw [HR.out]; exact if_pos hl)
        clear HR
        go_wp2_with fail
        go_ret
        exact ⟨ret_int (by rw [hc.out]), below_drewN HB.out _⟩
      · have hc : Hid (r = 1) := Lib.hid (by rw [HR.out]; unfold cmpN; rw [if_neg hl, if_pos (by omega)])
        clear HR
        go_wp2_with fail
        go_ret
        exact ⟨ret_int (by rw [hc.out]), below_drewN HB.out _⟩

def pCmp (m1 e1 m2 e2 : Int) : Int :=
  if pRight m1 e1 = true ∧ pRight m2 e2 = true then (if sgn m1 = sgn m2 then sgn m1 * pCmpSize m1 e1 m2 e2 else cmpN (sgn m1) (sgn m2)) else 0
/-- two numbers in two boxes of the call's own -/
def TwoNum (w : World) (m1 e1 m2 e2 : Int) (w' : World) : Prop :=
  w.heap.size + 1 < w'.heap.size ∧ w'.cell? ⟨w.heap.size, 0, none⟩ = some (.int .i64 m1) ∧ w'.cell? ⟨w.heap.size, 1, none⟩ = some (.int .i64 e1) ∧ w'.cell? ⟨w.heap.size + 1, 0, none⟩ = some (.int .i64 m2) ∧ w'.cell? ⟨w.heap.size + 1, 1, none⟩ = some (.int .i64 e2) ∧ Below w.heap.size w w'
theorem TwoNum.next {w w' w'' : World} {m1 e1 m2 e2 : Int} (h : TwoNum w m1 e1 m2 e2 w') (hb : Below w'.heap.size w' w'') : TwoNum w m1 e1 m2 e2 w'' := by
  obtain ⟨h1, h2, h3, h4, h5, h6⟩ := h
  have hs := hb.size
  exact ⟨by omega, (hb.cell (p := ⟨_, _, none⟩) (by show w.heap.size < _; omega)).trans h2, (hb.cell (p := ⟨_, _, none⟩) (by show w.heap.size < _; omega)).trans h3, (hb.cell (p := ⟨_, _, none⟩) (by show w.heap.size + 1 < _; omega)).trans h4, (hb.cell (p := ⟨_, _, none⟩) (by show w.heap.size + 1 < _; omega)).trans h5, h6.trans (hb.mono h6.size)⟩
theorem TwoNum.start (w : World) (m1 e1 m2 e2 : Int) : TwoNum w m1 e1 m2 e2 ((w.alloc (.cells #[.int .i64 m1, .int .i64 e1] 23)).alloc (.cells #[.int .i64 m2, .int .i64 e2] 23)) :=
  ⟨by simp, by simp, by simp, by simp, by simp, ((Below.refl _ w).alloc (Nat.le_refl _) _).alloc (by simp) _⟩
theorem TwoNum.drew {w w' : World} {m1 e1 m2 e2 : Int} (h : TwoNum w m1 e1 m2 e2 w') : TwoNum w m1 e1 m2 e2 w'.drew := ⟨h.1, h.2.1, h.2.2.1, h.2.2.2.1, h.2.2.2.2.1, h.2.2.2.2.2.drew⟩
theorem pCmpSize_bd (m1 e1 m2 e2 : Int) : -1 ≤ pCmpSize m1 e1 m2 e2 ∧ pCmpSize m1 e1 m2 e2 ≤ 1 := by
  unfold pCmpSize cmpN
  split
  · omega
  · split <;> split <;> (try split) <;> omega
theorem sgn_bd (m : Int) : -1 ≤ sgn m ∧ sgn m ≤ 1 := by
  unfold sgn
  split
  · omega
  · split <;> omega
set_option maxRecDepth 100000 in
set_option maxHeartbeats 1600000 in
theorem cmp_right (m1 e1 m2 e2 : Int) (w : World) (b1 : -9223372036854775808 ≤ m1) (b2 : m1 ≤ 9223372036854775807) (b3 : -9223372036854775808 ≤ m2) (b4 : m2 ≤ 9223372036854775807) (h1 : pRight m1 e1 = true) (h2 : pRight m2 e2 = true) :
    Calls Tryd.prog 19 #[numV m1 e1, numV m2 e2] w fun x w' => x = .returned (.int .i64 (pCmp m1 e1 m2 e2)) ∧ Below w.heap.size w w' := by
  have hC : pCmp m1 e1 m2 e2 = if sgn m1 = sgn m2 then sgn m1 * pCmpSize m1 e1 m2 e2 else cmpN (sgn m1) (sgn m2) := if_pos ⟨h1, h2⟩
  have HC := Lib.hid hC
  have HRA := Lib.hid (fun W => right_any m1 e1 W b1 b2)
  have HRB := Lib.hid (fun W => right_any m2 e2 W b3 b4)
  rw [h1] at HRA
  rw [h2] at HRB
  have H1 := Lib.hid h1
  have H2 := Lib.hid h2
  have T0 := Lib.hid (TwoNum.start w m1 e1 m2 e2)
  have q1 := sgn_bd m1
  have q2 := pCmpSize_bd m1 e1 m2 e2
  have hsg : Hid (sgn m1 = sgn m2 → (m1 = 0 ∨ m2 ≠ 0)) := Lib.hid (by
    unfold sgn
    intro h
    by_cases hz : m1 = 0
    · exact .inl hz
    · right
      intro hz2
      subst hz2
      simp at h
      split at h
      · omega
      · split at h <;> omega)
  generalize pCmp m1 e1 m2 e2 = r at *
  clear hC h1 h2 b1 b2 b3 b4
  go_enter Tryd.func19, Tryd.ntmps19
  go_wp2_with fail
  refine (HRA.out _).mono ?_
  rintro e w1 ⟨rfl, hb1⟩
  have T1 := T0.out.next hb1
  obtain ⟨z1, c11, c12, c13, c14, bel1⟩ := T1
  have T1 : Hid (TwoNum w m1 e1 m2 e2 w1) := Lib.hid ⟨z1, c11, c12, c13, c14, bel1⟩
  clear hb1 bel1 T0
  go_wp2_with fail
  refine (HRB.out _).mono ?_
  rintro e w2 ⟨rfl, hb2⟩
  have T2 := T1.out.next hb2
  obtain ⟨z2, c21, c22, c23, c24, bel2⟩ := T2
  have T2 : Hid (TwoNum w m1 e1 m2 e2 w2) := Lib.hid ⟨z2, c21, c22, c23, c24, bel2⟩
  clear hb2 z1 c11 c12 c13 c14 T1
  go_upto_region 3 with fail
  go_cut [5, 6] (fun v5 v6 wx => v5 = .int .i64 (sgn m1) ∧ v6 = .int .i64 (sgn m2) ∧ TwoNum w m1 e1 m2 e2 wx)
  case first =>
    go_region_held3 (fun w' => w.heap.size + 1 < w'.heap.size ∧ w'.cell? ⟨w.heap.size, 0, none⟩ = some (.int .i64 m1) ∧ w'.cell? ⟨w.heap.size, 1, none⟩ = some (.int .i64 e1) ∧ w'.cell? ⟨w.heap.size + 1, 0, none⟩ = some (.int .i64 m2) ∧ w'.cell? ⟨w.heap.size + 1, 1, none⟩ = some (.int .i64 e2) ∧ Below w.heap.size w w')
      (first | exact T2.out | exact T2.out.drew | exact (TwoNum.next T2.out.drew hb) | (go_split_ands; exact (TwoNum.next (w := w) ⟨by assumption, by assumption, by assumption, by assumption, by assumption, by assumption⟩ hb)))
      (first
        | (go_at_call_of 50 m1; refine (sign_num m1 e1 _).mono ?_; rintro e wx ⟨rfl, hb⟩)
        | (go_at_call_of 50 m2; refine (sign_num m2 e2 _).mono ?_; rintro e wx ⟨rfl, hb⟩))
    all_goals go_wp2_with fail
    all_goals go_meet
    all_goals refine ⟨rfl, rfl, ?_⟩
    all_goals first | assumption | (unfold TwoNum; assumption) | (go_split_ands; exact ⟨by assumption, by assumption, by assumption, by assumption, by assumption, by assumption⟩)
  case rest =>
    obtain ⟨rfl, rfl, z3, c31, c32, c33, c34, bel3⟩ := hcut
    have T3 : Hid (TwoNum w m1 e1 m2 e2 wc) := Lib.hid ⟨z3, c31, c32, c33, c34, bel3⟩
    clear z2 c21 c22 c23 c24 T2 bel3 bel2
    by_cases he : sgn m1 = sgn m2
    · rw [if_pos he] at HC
      have HH := hsg.out he
      have bne : (sgn m1 != sgn m2) = false := by rw [bne_eq_false_iff_eq]; exact he
      clear he hsg
      have HH2 := Lib.hid HH
      clear HH
      have hmul : IntKind.i64.wrap (sgn m1 * pCmpSize m1 e1 m2 e2) = sgn m1 * pCmpSize m1 e1 m2 e2 := IntWalk.i64_in _ (by
        rcases (by omega : sgn m1 = -1 ∨ sgn m1 = 0 ∨ sgn m1 = 1) with h | h | h <;> rw [h] <;> omega)
      go_wp2_with fail
      go_region_held3 (fun w' => w.heap.size + 1 < w'.heap.size ∧ w'.cell? ⟨w.heap.size, 0, none⟩ = some (.int .i64 m1) ∧ w'.cell? ⟨w.heap.size, 1, none⟩ = some (.int .i64 e1) ∧ w'.cell? ⟨w.heap.size + 1, 0, none⟩ = some (.int .i64 m2) ∧ w'.cell? ⟨w.heap.size + 1, 1, none⟩ = some (.int .i64 e2) ∧ Below w.heap.size w w')
        (first | exact T3.out | exact T3.out.drew | exact (TwoNum.next T3.out.drew hb) | (go_split_ands; exact (TwoNum.next (w := w) ⟨by assumption, by assumption, by assumption, by assumption, by assumption, by assumption⟩ hb)))
        (first
          | (go_at_call 50; refine (sign_num m1 e1 _).mono ?_; rintro e wx ⟨rfl, hb⟩)
          | (go_at_call 51; refine (cmpSize_any m1 e1 m2 e2 _ H1.out H2.out HH2.out).mono ?_; rintro e wx ⟨rfl, hb⟩))
      all_goals go_wp2_with fail
      all_goals go_ret
      all_goals refine ⟨ret_int (by rw [HC.out]), ?_⟩
      all_goals first | assumption | (go_split_ands; assumption)
    · rw [if_neg he] at HC
      have bne : (sgn m1 != sgn m2) = true := by rw [bne_iff_ne]; exact he
      by_cases hl : sgn m1 < sgn m2
      · have hc : Hid (r = -1) := Lib.hid (by rw [HC.out]; exact if_pos hl)
        clear HC
        go_wp2_with fail
        go_ret
        exact ⟨ret_int (by rw [hc.out]), T3.out.2.2.2.2.2⟩
      · have hc : Hid (r = 1) := Lib.hid (by rw [HC.out]; unfold cmpN; rw [if_neg hl, if_pos (by omega)])
        clear HC
        go_wp2_with fail
        go_ret
        exact ⟨ret_int (by rw [hc.out]), T3.out.2.2.2.2.2⟩
end Go.Proofs.YteccjdclkcipbaaDoor
