/-
  num.Round of a right number, of so many places: what it returns.
-/
import Derived.Test.YteccjdclkcipbaaDoorPlMa
import Derived.Test.YteccjdclkcipbaaDoorNum11
import Derived.Test.YteccjdclkcipbaaDoorNum2
namespace Go.Proofs.YteccjdclkcipbaaDoor
open Go.RowKit

set_option maxRecDepth 100000 in
set_option maxHeartbeats 3200000 in
theorem nround_any (m e : Int) (k : Nat) (w : World) (hk : k ≤ 1000000) (hR : pRight m e = true) :
    Calls Tryd.prog 124 #[numV m e, .int .i64 k] w fun x w' => x = .returned (numV (nRound m e k).1 (nRound m e k).2) ∧ Below w.heap.size w w' := by
  obtain ⟨a1, a2⟩ := rb hR
  have C := Lib.hid (fun W => right_any m e W (by omega) (by omega))
  rw [hR] at C
  have T0 : Hid (NumIn w m e ((w.alloc (.cells #[.int .i64 m, .int .i64 e] 23)).alloc (.cells #[.int .i64 0, .int .i64 0] 23))) := Lib.hid ((NumIn.start w m e).next ((Below.refl _ _).alloc (Nat.le_refl _) _))
  have HL : Hid (Lies ((w.alloc (.cells #[.int .i64 m, .int .i64 e] 23)).alloc (.cells #[.int .i64 0, .int .i64 0] 23)) (w.heap.size + 1) 23 #[.int .i64 0, .int .i64 0]) := Lib.hid (by have := Lies.new (w.alloc (.cells #[.int .i64 m, .int .i64 e] 23)) 23 #[.int .i64 0, .int .i64 0]; simpa using this)
  have HD : Hid (nRound m e k = if 40 ≤ k ∨ -(k : Int) ≤ e then (m, e) else if 15 < -(k : Int) - e then (0, 0) else
    if pRight (sg (decide (m < 0)) (pTrim (m.natAbs / p10 (-(k : Int) - e).toNat + if p10 (-(k : Int) - e).toNat ≤ m.natAbs % p10 (-(k : Int) - e).toNat * 2 then 1 else 0) (-(k : Int))).1) (pTrim (m.natAbs / p10 (-(k : Int) - e).toNat + if p10 (-(k : Int) - e).toNat ≤ m.natAbs % p10 (-(k : Int) - e).toNat * 2 then 1 else 0) (-(k : Int))).2 = true then (sg (decide (m < 0)) (pTrim (m.natAbs / p10 (-(k : Int) - e).toNat + if p10 (-(k : Int) - e).toNat ≤ m.natAbs % p10 (-(k : Int) - e).toNat * 2 then 1 else 0) (-(k : Int))).1, (pTrim (m.natAbs / p10 (-(k : Int) - e).toNat + if p10 (-(k : Int) - e).toNat ≤ m.natAbs % p10 (-(k : Int) - e).toNat * 2 then 1 else 0) (-(k : Int))).2) else (m, e)) := Lib.hid rfl
  generalize nRound m e k = r at *
  have HR := Lib.hid hR
  clear hR
  go_enter Tryd.func124, Tryd.ntmps124
  go_wp2_with fail
  refine (C.out _).mono ?_
  rintro x w1 ⟨rfl, hb⟩
  have HL1 := Lib.hid (Lies.below HL.out hb)
  have T1 := Lib.hid (T0.out.next hb)
  clear hb HL T0 C
  by_cases h40 : 40 ≤ k ∨ -(k : Int) ≤ e
  · rw [if_pos h40] at HD
    obtain ⟨g0, g1, g2, g3⟩ := T1.out
    have q0 := HL1.out.cell 0
    have q1 := HL1.out.cell 1
    have f0 := HL1.out.frozen 0
    have f1 := HL1.out.frozen 1
    have hlt := HL1.out.lt
    have HB1 := Lib.hid g3
    clear HL1 T1 g3
    simp only [List.getElem?_toArray, List.getElem?_cons_zero, List.getElem?_cons_succ] at q0 q1
    have fin : ∀ w2, w2 = (w1.setCell ⟨w.heap.size + 1, 0, none⟩ (.int .i64 m)).setCell ⟨w.heap.size + 1, 1, none⟩ (.int .i64 e) → Hid (Below w.heap.size w w2) := fun w2 h => Lib.hid (h ▸ ((HB1.out.setCell (p := ⟨w.heap.size + 1, 0, none⟩) (Nat.le_succ _) _).setCell (p := ⟨w.heap.size + 1, 1, none⟩) (Nat.le_succ _) _))
    by_cases h4 : 40 ≤ k
    · clear h40
      go_wp2_with fail
      refine bodyPost_ret (v := .agg #[.int .i64 m, .int .i64 e]) (by simp [results, Tryd.results124, go_sem, q0, q1]) rfl ?_
      exact ⟨by rw [HD.out], (fin _ rfl).out⟩
    · have h5 : -(k : Int) ≤ e := by omega
      clear h40
      go_wp2_with fail
      refine bodyPost_ret (v := .agg #[.int .i64 m, .int .i64 e]) (by simp [results, Tryd.results124, go_sem, q0, q1]) rfl ?_
      exact ⟨by rw [HD.out], (fin _ rfl).out⟩
  · rw [if_neg h40] at HD
    have h4 : ¬ 40 ≤ k := by omega
    have h5 : ¬ -(k : Int) ≤ e := by omega
    obtain ⟨b1, b2, b3, b4, b5⟩ := pRight_of HR.out (by intro h; subst h; have := HR.out; unfold pRight at this; simp at this; omega)
    clear h40
    obtain ⟨g0, g1, g2, g3⟩ := T1.out
    have q0 := HL1.out.cell 0
    have q1 := HL1.out.cell 1
    have f0 := HL1.out.frozen 0
    have f1 := HL1.out.frozen 1
    have hlt := HL1.out.lt
    have HB1 := Lib.hid g3
    clear g3
    simp only [List.getElem?_toArray, List.getElem?_cons_zero, List.getElem?_cons_succ] at q0 q1
    by_cases h15 : 15 < -(k : Int) - e
    · rw [if_pos h15] at HD
      go_wp2_with fail
      refine bodyPost_ret (v := .agg #[.int .i64 0, .int .i64 0]) (by simp [results, Tryd.results124, go_sem, q0, q1]) rfl ?_
      exact ⟨by rw [HD.out], ((HB1.out.setCell (p := ⟨w.heap.size + 1, 0, none⟩) (Nat.le_succ _) _).setCell (p := ⟨w.heap.size + 1, 1, none⟩) (Nat.le_succ _) _)⟩
    · rw [if_neg h15] at HD
      have hp := Lib.hid (fun W => power_at (-(k : Int) - e) W (by omega) (by omega))
      have hs := Lib.hid (fun W => size_any m W (by omega) (by omega))
      have hu0 : 0 < p10 (-(k : Int) - e).toNat := Nat.pow_pos (by decide)
      have hu1 : p10 (-(k : Int) - e).toNat ≤ 1000000000000000 := Nat.le_trans (Nat.pow_le_pow_right (by decide) (show (-(k : Int) - e).toNat ≤ 15 by omega)) (by decide)
      go_wp2_with fail
      go_quiet (first | (go_at_call_of 40 m; exact quiet_left (hs.out _)) | (go_at_call_of 84 (-(k : Int) - e); exact quiet_left (hp.out _)))
      generalize p10 (-(k : Int) - e).toNat = u at *
      have hsm : Hid (m.natAbs ≤ 1000000000000000 ∧ decide (m < 0) = decide (m < 0)) := Lib.hid ⟨by omega, rfl⟩
      generalize m.natAbs = s at *
      have hr1 : s % u < u := Nat.mod_lt _ hu0
      have hq1 : s / u ≤ s := Nat.div_le_self _ _
      have er : (s : Int) % (u : Int) = ((s % u : Nat) : Int) := rfl
      have eq : (s : Int) / (u : Int) = ((s / u : Nat) : Int) := rfl
      have hs15 := hsm.out.1
      clear hsm hp hs b1 b2 b3 b4 b5 T1 HL1
      have ER := Lib.hid er
      have EQ := Lib.hid eq
      clear er eq
      obtain ⟨N, hN⟩ : ∃ N, s / u + (if u ≤ s % u * 2 then 1 else 0) = N := ⟨_, rfl⟩
      rw [hN] at HD
      have hNb : N ≤ 1000000000000000 := by
        have : s / u * u ≤ s := Nat.div_mul_le_self _ _
        rw [← hN]
        split
        · by_cases h1 : u = 1
          · subst h1
            omega
          · have : s / u * 2 ≤ s / u * u := Nat.mul_le_mul_left _ (by omega)
            omega
        · omega
      have HN := Lib.hid hN
      have hw1 : IntKind.u64.wrap ((s : Int) / (u : Int)) = (s : Int) / (u : Int) := u64_wrap _ (by rw [EQ.out]; have : ((s / u : Nat) : Int) ≤ s := Int.ofNat_le.2 hq1; have := Int.natCast_nonneg (s / u); generalize ((s / u : Nat) : Int) = z at *; omega)
      have hw2 : IntKind.u64.wrap ((s : Int) / (u : Int) + 1) = (s : Int) / (u : Int) + 1 := u64_wrap _ (by rw [EQ.out]; have : ((s / u : Nat) : Int) ≤ s := Int.ofNat_le.2 hq1; have := Int.natCast_nonneg (s / u); generalize ((s / u : Nat) : Int) = z at *; omega)
      have hw3 : IntKind.u64.wrap ((s : Int) % (u : Int) * 2) = (s : Int) % (u : Int) * 2 := u64_wrap _ (by rw [ER.out]; have : ((s % u : Nat) : Int) < u := Int.ofNat_lt.2 hr1; have := Int.natCast_nonneg (s % u); generalize ((s % u : Nat) : Int) = z at *; omega)
      have hup : ((u : Int) ≤ (s : Int) % (u : Int) * 2) ↔ u ≤ s % u * 2 := by rw [ER.out]; omega
      have HUP := Lib.hid hup
      clear hN hup
      go_upto_if 50 with fail
      go_cut [7] (fun v wx => v = .int .u64 (N : Int) ∧ wx = w1.drewN nq)
      case first =>
        by_cases hc : (u : Int) ≤ (s : Int) % (u : Int) * 2
        · have hv : Hid ((s : Int) / (u : Int) + 1 = (N : Int)) := Lib.hid (by rw [← HN.out, if_pos (HUP.out.1 hc), EQ.out]; omega)
          go_wp2_with fail
          go_meet
          exact ⟨by rw [hv.out], rfl⟩
        · have hv : Hid ((s : Int) / (u : Int) = (N : Int)) := Lib.hid (by rw [← HN.out, if_neg (fun h => hc (HUP.out.2 h)), EQ.out]; omega)
          go_wp2_with fail
          go_meet
          exact ⟨by rw [hv.out], rfl⟩
      case rest =>
        obtain ⟨rfl, rfl⟩ := hcut
        clear HUP hw1 hw2 hw3 ER EQ HN
        have HT := Lib.hid (fun W => trimmed_any (decide (m < 0)) N (-(k : Int)) W hNb (by omega) (by omega))
        have hsb : (pTrim N (-(k : Int))).1 ≤ 1000000000000000 := by
          rcases Nat.eq_zero_or_pos N with z | z
          · rw [z, pTrim_zero]; exact Nat.zero_le _
          · obtain ⟨q, a1, -, -, -⟩ := pTrim_is N (-(k : Int)) z
            have : (pTrim N (-(k : Int))).1 * 1 ≤ (pTrim N (-(k : Int))).1 * 10 ^ q := Nat.mul_le_mul_left _ (Nat.pow_pos (by decide))
            omega
        have HRt := Lib.hid (fun W => right_any (sg (decide (m < 0)) (pTrim N (-(k : Int))).1) (pTrim N (-(k : Int))).2 W (by unfold sg; split <;> omega) (by unfold sg; split <;> omega))
        clear hsb
        go_wp2_with fail
        refine (HT.out _).mono ?_
        rintro z w3 ⟨rfl, hb3⟩
        generalize sg (decide (m < 0)) (pTrim N (-(k : Int))).1 = m2 at *
        generalize (pTrim N (-(k : Int))).2 = e2 at *
        have hz3 := hb3.size
        have k0 : w3.cell? ⟨w.heap.size, 0, none⟩ = some (.int .i64 m) := (hb3.cell (p := ⟨w.heap.size, 0, none⟩) (by simpa using g0)).trans (by simpa using g1)
        have k1 : w3.cell? ⟨w.heap.size, 1, none⟩ = some (.int .i64 e) := (hb3.cell (p := ⟨w.heap.size, 1, none⟩) (by simpa using g0)).trans (by simpa using g2)
        have j0 : w3.cell? ⟨w.heap.size + 1, 0, none⟩ = some (.int .i64 0) := (hb3.cell (p := ⟨w.heap.size + 1, 0, none⟩) (by simpa using hlt)).trans (by simpa using q0)
        have j1 : w3.cell? ⟨w.heap.size + 1, 1, none⟩ = some (.int .i64 0) := (hb3.cell (p := ⟨w.heap.size + 1, 1, none⟩) (by simpa using hlt)).trans (by simpa using q1)
        have j2 : w3.frozen? ⟨w.heap.size + 1, 0, none⟩ = false := (hb3.frozen (p := ⟨w.heap.size + 1, 0, none⟩) (by simpa using hlt)).trans (by simpa using f0)
        have j3 : w3.frozen? ⟨w.heap.size + 1, 1, none⟩ = false := (hb3.frozen (p := ⟨w.heap.size + 1, 1, none⟩) (by simpa using hlt)).trans (by simpa using f1)
        have HB3 : Hid (Below w.heap.size w w3) := Lib.hid ((below_drewN HB1.out nq).trans (hb3.mono (by simp; omega)))
        have hz4 : w.heap.size + 1 < w3.heap.size := by simp at hz3; omega
        clear hb3 hz3 g1 g2 q0 q1 f0 f1 hlt HT
        go_wp2_with fail
        refine (HRt.out _).mono ?_
        rintro z w4 ⟨rfl, hb4⟩
        have i0 : w4.cell? ⟨w3.heap.size, 0, none⟩ = some (.int .i64 m2) := (hb4.cell (p := ⟨w3.heap.size, 0, none⟩) (by simp)).trans (by simp)
        have i1 : w4.cell? ⟨w3.heap.size, 1, none⟩ = some (.int .i64 e2) := (hb4.cell (p := ⟨w3.heap.size, 1, none⟩) (by simp)).trans (by simp)
        have k0 : w4.cell? ⟨w.heap.size, 0, none⟩ = some (.int .i64 m) := (hb4.cell (p := ⟨w.heap.size, 0, none⟩) (by simp; omega)).trans ((World.cell?_alloc_past _ _ _ (by show w.heap.size < _; omega)).trans k0)
        have k1 : w4.cell? ⟨w.heap.size, 1, none⟩ = some (.int .i64 e) := (hb4.cell (p := ⟨w.heap.size, 1, none⟩) (by simp; omega)).trans ((World.cell?_alloc_past _ _ _ (by show w.heap.size < _; omega)).trans k1)
        have j0 : w4.cell? ⟨w.heap.size + 1, 0, none⟩ = some (.int .i64 0) := (hb4.cell (p := ⟨w.heap.size + 1, 0, none⟩) (by simp; omega)).trans ((World.cell?_alloc_past _ _ _ (by show w.heap.size + 1 < _; omega)).trans j0)
        have j1 : w4.cell? ⟨w.heap.size + 1, 1, none⟩ = some (.int .i64 0) := (hb4.cell (p := ⟨w.heap.size + 1, 1, none⟩) (by simp; omega)).trans ((World.cell?_alloc_past _ _ _ (by show w.heap.size + 1 < _; omega)).trans j1)
        have j2 : w4.frozen? ⟨w.heap.size + 1, 0, none⟩ = false := (hb4.frozen (p := ⟨w.heap.size + 1, 0, none⟩) (by simp; omega)).trans ((World.frozen?_alloc_past _ _ _ (by show w.heap.size + 1 < _; omega)).trans j2)
        have j3 : w4.frozen? ⟨w.heap.size + 1, 1, none⟩ = false := (hb4.frozen (p := ⟨w.heap.size + 1, 1, none⟩) (by simp; omega)).trans ((World.frozen?_alloc_past _ _ _ (by show w.heap.size + 1 < _; omega)).trans j3)
        have hlt4 : w3.heap.size < w4.heap.size := by have := hb4.size; simp at this; omega
        have HB4 : Hid (Below w.heap.size w w4) := Lib.hid ((HB3.out.alloc (by omega) _).trans (hb4.mono (by simp; omega)))
        clear hb4 HB3 HRt
        cases hR : pRight m2 e2
        · rw [hR, if_neg (by decide)] at HD
          go_wp2_with fail
          refine bodyPost_ret (v := .agg #[.int .i64 m, .int .i64 e]) (by simp [results, Tryd.results124, go_sem, j0, j1]) rfl ?_
          exact ⟨by rw [HD.out], (HB4.out.setCell (p := ⟨w.heap.size + 1, 0, none⟩) (Nat.le_succ _) _).setCell (p := ⟨w.heap.size + 1, 1, none⟩) (Nat.le_succ _) _⟩
        · rw [hR, if_pos rfl] at HD
          go_wp2_with fail
          refine bodyPost_ret (v := .agg #[.int .i64 m2, .int .i64 e2]) (by simp [results, Tryd.results124, go_sem, j0, j1]) rfl ?_
          exact ⟨by rw [HD.out], (HB4.out.setCell (p := ⟨w.heap.size + 1, 0, none⟩) (Nat.le_succ _) _).setCell (p := ⟨w.heap.size + 1, 1, none⟩) (Nat.le_succ _) _⟩
end Go.Proofs.YteccjdclkcipbaaDoor
