/-
  num.Round, Mul by 100.
-/
import Derived.Test.YteccjdclkcipbaaDoorPlMa
import Derived.Test.YteccjdclkcipbaaDoorNum11
import Derived.Test.YteccjdclkcipbaaDoorNum2
import Derived.Test.YteccjdclkcipbaaDoorNum10
import Derived.Test.YteccjdclkcipbaaDoorPlainH
import Derived.Test.YteccjdclkcipbaaDoorBuild1
import Derived.Test.YteccjdclkcipbaaDoorLex8
namespace Go.Proofs.YteccjdclkcipbaaDoor
open Go.RowKit

set_option maxRecDepth 100000 in
set_option maxHeartbeats 3200000 in
theorem nround_any (m e : Int) (k : Nat) (w : World) (hk : k ≤ 1000000) (hR : pRight m e = true) :
    Calls Tryd.prog 124 #[numV m e, .int .i64 k] w fun x w' => x = .returned (numV (nRound m e k).1 (nRound m e k).2) ∧ Below w.heap.size w w' := by
  obtain ⟨a1, a2⟩ := rb hR
  have C := Lib.hid (fun W => right_any m e W (by omega) (by omega))
  rw [hR] at C
  have T0 : Hid (NumIn w m e ((w.alloc (.cells #[.int .i64 m, .int .i64 e] 23)).alloc (.cells #[.int .i64 0, .int .i64 0] 23))) := Lib.hid ((NumIn.start w m e).next ((Below.refl _ _).alloc (Nat.le_refl _) _))
  have HL : Hid (Lies ((w.alloc (.cells #[.int .i64 m, .int .i64 e] 23)).alloc (.cells #[.int .i64 0, .int .i64 0] 23)) (w.heap.size + 1) 23 #[.int .i64 0, .int .i64 0]) := Lib.hid (by have := Lies.new (w.alloc (.cells #[.int .i64 m, .int .i64 e] 23)) 23 #[.int .i64 0, .int .i64 0]; simpa using this)
  have HD : Hid (nRound m e k = if 40 ≤ k ∨ -(k : Int) ≤ e then (m, e) else if 15 < -(k : Int) - e then (0, 0) else
    if pRight (sg (decide (m < 0)) (pTrim (m.natAbs / p10 (-(k : Int) - e).toNat + if p10 (-(k : Int) - e).toNat ≤ m.natAbs % p10 (-(k : Int) - e).toNat * 2 then 1 else 0) (-(k : Int))).1) (pTrim (m.natAbs / p10 (-(k : Int) - e).toNat + if p10 (-(k : Int) - e).toNat ≤ m.natAbs % p10 (-(k : Int) - e).toNat * 2 then 1 else 0) (-(k : Int))).2 = true then (sg (decide (m < 0)) (pTrim (m.natAbs / p10 (-(k : Int) - e).toNat + if p10 (-(k : Int) - e).toNat ≤ m.natAbs % p10 (-(k : Int) - e).toNat * 2 then 1 else 0) (-(k : Int))).1, (pTrim (m.natAbs / p10 (-(k : Int) - e).toNat + if p10 (-(k : Int) - e).toNat ≤ m.natAbs % p10 (-(k : Int) - e).toNat * 2 then 1 else 0) (-(k : Int))).2) else (m, e)) := Lib.hid rfl
  generalize nRound m e k = r at *
  have HR := Lib.hid hR
  clear hR
  go_enter Tryd.func124, Tryd.ntmps124
  go_wp2_with fail
  refine (C.out _).mono ?_
  rintro x w1 ⟨rfl, hb⟩
  have HL1 := Lib.hid (Lies.below HL.out hb)
  have T1 := Lib.hid (T0.out.next hb)
  clear hb HL T0 C
  by_cases h40 : 40 ≤ k ∨ -(k : Int) ≤ e
  · rw [if_pos h40] at HD
    obtain ⟨g0, g1, g2, g3⟩ := T1.out
    have q0 := HL1.out.cell 0
    have q1 := HL1.out.cell 1
    have f0 := HL1.out.frozen 0
    have f1 := HL1.out.frozen 1
    have hlt := HL1.out.lt
    have HB1 := Lib.hid g3
    clear HL1 T1 g3
    simp only [List.getElem?_toArray, List.getElem?_cons_zero, List.getElem?_cons_succ] at q0 q1
    have fin : ∀ w2, w2 = (w1.setCell ⟨w.heap.size + 1, 0, none⟩ (.int .i64 m)).setCell ⟨w.heap.size + 1, 1, none⟩ (.int .i64 e) → Hid (Below w.heap.size w w2) := fun w2 h => Lib.hid (h ▸ ((HB1.out.setCell (p := ⟨w.heap.size + 1, 0, none⟩) (Nat.le_succ _) _).setCell (p := ⟨w.heap.size + 1, 1, none⟩) (Nat.le_succ _) _))
    by_cases h4 : 40 ≤ k
    · clear h40
      go_wp2_with fail
      refine bodyPost_ret (v := .agg #[.int .i64 m, .int .i64 e]) (by simp [results, Tryd.results124, go_sem, q0, q1]) rfl ?_
      exact ⟨by rw [HD.out], (fin _ rfl).out⟩
    · have h5 : -(k : Int) ≤ e := by omega
      clear h40
      go_wp2_with fail
      refine bodyPost_ret (v := .agg #[.int .i64 m, .int .i64 e]) (by simp [results, Tryd.results124, go_sem, q0, q1]) rfl ?_
      exact ⟨by rw [HD.out], (fin _ rfl).out⟩
  · rw [if_neg h40] at HD
    have h4 : ¬ 40 ≤ k := by omega
    have h5 : ¬ -(k : Int) ≤ e := by omega
    obtain ⟨b1, b2, b3, b4, b5⟩ := pRight_of HR.out (by intro h; subst h; have := HR.out; unfold pRight at this; simp at this; omega)
    clear h40
    obtain ⟨g0, g1, g2, g3⟩ := T1.out
    have q0 := HL1.out.cell 0
    have q1 := HL1.out.cell 1
    have f0 := HL1.out.frozen 0
    have f1 := HL1.out.frozen 1
    have hlt := HL1.out.lt
    have HB1 := Lib.hid g3
    clear g3
    simp only [List.getElem?_toArray, List.getElem?_cons_zero, List.getElem?_cons_succ] at q0 q1
    by_cases h15 : 15 < -(k : Int) - e
    · rw [if_pos h15] at HD
      go_wp2_with fail
      refine bodyPost_ret (v := .agg #[.int .i64 0, .int .i64 0]) (by simp [results, Tryd.results124, go_sem, q0, q1]) rfl ?_
      exact ⟨by rw [HD.out], ((HB1.out.setCell (p := ⟨w.heap.size + 1, 0, none⟩) (Nat.le_succ _) _).setCell (p := ⟨w.heap.size + 1, 1, none⟩) (Nat.le_succ _) _)⟩
    · rw [if_neg h15] at HD
      have hp := Lib.hid (fun W => power_at (-(k : Int) - e) W (by omega) (by omega))
      have hs := Lib.hid (fun W => size_any m W (by omega) (by omega))
      have hu0 : 0 < p10 (-(k : Int) - e).toNat := Nat.pow_pos (by decide)
      have hu1 : p10 (-(k : Int) - e).toNat ≤ 1000000000000000 := Nat.le_trans (Nat.pow_le_pow_right (by decide) (show (-(k : Int) - e).toNat ≤ 15 by omega)) (by decide)
      go_wp2_with fail
      go_quiet (first | (go_at_call_of 40 m; exact quiet_left (hs.out _)) | (go_at_call_of 84 (-(k : Int) - e); exact quiet_left (hp.out _)))
      generalize p10 (-(k : Int) - e).toNat = u at *
      have hsm : Hid (m.natAbs ≤ 1000000000000000 ∧ decide (m < 0) = decide (m < 0)) := Lib.hid ⟨by omega, rfl⟩
      generalize m.natAbs = s at *
      have hr1 : s % u < u := Nat.mod_lt _ hu0
      have hq1 : s / u ≤ s := Nat.div_le_self _ _
      have er : (s : Int) % (u : Int) = ((s % u : Nat) : Int) := rfl
      have eq : (s : Int) / (u : Int) = ((s / u : Nat) : Int) := rfl
      have hs15 := hsm.out.1
      clear hsm hp hs b1 b2 b3 b4 b5 T1 HL1
      have ER := Lib.hid er
      have EQ := Lib.hid eq
      clear er eq
      obtain ⟨N, hN⟩ : ∃ N, s / u + (if u ≤ s % u * 2 then 1 else 0) = N := ⟨_, rfl⟩
      rw [hN] at HD
      have hNb : N ≤ 1000000000000000 := by
        have : s / u * u ≤ s := Nat.div_mul_le_self _ _
        rw [← hN]
        split
        · by_cases h1 : u = 1
          · subst h1
            omega
          · have : s / u * 2 ≤ s / u * u := Nat.mul_le_mul_left _ (by omega)
            omega
        · omega
      have HN := Lib.hid hN
      have hw1 : IntKind.u64.wrap ((s : Int) / (u : Int)) = (s : Int) / (u : Int) := u64_wrap _ (by rw [EQ.out]; have : ((s / u : Nat) : Int) ≤ s := Int.ofNat_le.2 hq1; have := Int.natCast_nonneg (s / u); generalize ((s / u : Nat) : Int) = z at *; omega)
      have hw2 : IntKind.u64.wrap ((s : Int) / (u : Int) + 1) = (s : Int) / (u : Int) + 1 := u64_wrap _ (by rw [EQ.out]; have : ((s / u : Nat) : Int) ≤ s := Int.ofNat_le.2 hq1; have := Int.natCast_nonneg (s / u); generalize ((s / u : Nat) : Int) = z at *; omega)
      have hw3 : IntKind.u64.wrap ((s : Int) % (u : Int) * 2) = (s : Int) % (u : Int) * 2 := u64_wrap _ (by rw [ER.out]; have : ((s % u : Nat) : Int) < u := Int.ofNat_lt.2 hr1; have := Int.natCast_nonneg (s % u); generalize ((s % u : Nat) : Int) = z at *; omega)
      have hup : ((u : Int) ≤ (s : Int) % (u : Int) * 2) ↔ u ≤ s % u * 2 := by rw [ER.out]; omega
      have HUP := Lib.hid hup
      clear hN hup
      go_upto_if 50 with fail
      go_cut [7] (fun v wx => v = .int .u64 (N : Int) ∧ wx = w1.drewN nq)
      case first =>
        by_cases hc : (u : Int) ≤ (s : Int) % (u : Int) * 2
        · have hv : Hid ((s : Int) / (u : Int) + 1 = (N : Int)) := Lib.hid (by rw [← HN.out, if_pos (HUP.out.1 hc), EQ.out]; omega)
          go_wp2_with fail
          go_meet
          exact ⟨by rw [hv.out], rfl⟩
        · have hv : Hid ((s : Int) / (u : Int) = (N : Int)) := Lib.hid (by rw [← HN.out, if_neg (fun h => hc (HUP.out.2 h)), EQ.out]; omega)
          go_wp2_with fail
          go_meet
          exact ⟨by rw [hv.out], rfl⟩
      case rest =>
        obtain ⟨rfl, rfl⟩ := hcut
        clear HUP hw1 hw2 hw3 ER EQ HN
        have HT := Lib.hid (fun W => trimmed_any (decide (m < 0)) N (-(k : Int)) W hNb (by omega) (by omega))
        have hsb : (pTrim N (-(k : Int))).1 ≤ 1000000000000000 := by
          rcases Nat.eq_zero_or_pos N with z | z
          · rw [z, pTrim_zero]; exact Nat.zero_le _
          · obtain ⟨q, a1, -, -, -⟩ := pTrim_is N (-(k : Int)) z
            have : (pTrim N (-(k : Int))).1 * 1 ≤ (pTrim N (-(k : Int))).1 * 10 ^ q := Nat.mul_le_mul_left _ (Nat.pow_pos (by decide))
            omega
        have HRt := Lib.hid (fun W => right_any (sg (decide (m < 0)) (pTrim N (-(k : Int))).1) (pTrim N (-(k : Int))).2 W (by unfold sg; split <;> omega) (by unfold sg; split <;> omega))
        clear hsb
        go_wp2_with fail
        refine (HT.out _).mono ?_
        rintro z w3 ⟨rfl, hb3⟩
        generalize sg (decide (m < 0)) (pTrim N (-(k : Int))).1 = m2 at *
        generalize (pTrim N (-(k : Int))).2 = e2 at *
        have hz3 := hb3.size
        have k0 : w3.cell? ⟨w.heap.size, 0, none⟩ = some (.int .i64 m) := (hb3.cell (p := ⟨w.heap.size, 0, none⟩) (by simpa using g0)).trans (by simpa using g1)
        have k1 : w3.cell? ⟨w.heap.size, 1, none⟩ = some (.int .i64 e) := (hb3.cell (p := ⟨w.heap.size, 1, none⟩) (by simpa using g0)).trans (by simpa using g2)
        have j0 : w3.cell? ⟨w.heap.size + 1, 0, none⟩ = some (.int .i64 0) := (hb3.cell (p := ⟨w.heap.size + 1, 0, none⟩) (by simpa using hlt)).trans (by simpa using q0)
        have j1 : w3.cell? ⟨w.heap.size + 1, 1, none⟩ = some (.int .i64 0) := (hb3.cell (p := ⟨w.heap.size + 1, 1, none⟩) (by simpa using hlt)).trans (by simpa using q1)
        have j2 : w3.frozen? ⟨w.heap.size + 1, 0, none⟩ = false := (hb3.frozen (p := ⟨w.heap.size + 1, 0, none⟩) (by simpa using hlt)).trans (by simpa using f0)
        have j3 : w3.frozen? ⟨w.heap.size + 1, 1, none⟩ = false := (hb3.frozen (p := ⟨w.heap.size + 1, 1, none⟩) (by simpa using hlt)).trans (by simpa using f1)
        have HB3 : Hid (Below w.heap.size w w3) := Lib.hid ((below_drewN HB1.out nq).trans (hb3.mono (by simp; omega)))
        have hz4 : w.heap.size + 1 < w3.heap.size := by simp at hz3; omega
        clear hb3 hz3 g1 g2 q0 q1 f0 f1 hlt HT
        go_wp2_with fail
        refine (HRt.out _).mono ?_
        rintro z w4 ⟨rfl, hb4⟩
        have i0 : w4.cell? ⟨w3.heap.size, 0, none⟩ = some (.int .i64 m2) := (hb4.cell (p := ⟨w3.heap.size, 0, none⟩) (by simp)).trans (by simp)
        have i1 : w4.cell? ⟨w3.heap.size, 1, none⟩ = some (.int .i64 e2) := (hb4.cell (p := ⟨w3.heap.size, 1, none⟩) (by simp)).trans (by simp)
        have k0 : w4.cell? ⟨w.heap.size, 0, none⟩ = some (.int .i64 m) := (hb4.cell (p := ⟨w.heap.size, 0, none⟩) (by simp; omega)).trans ((World.cell?_alloc_past _ _ _ (by show w.heap.size < _; omega)).trans k0)
        have k1 : w4.cell? ⟨w.heap.size, 1, none⟩ = some (.int .i64 e) := (hb4.cell (p := ⟨w.heap.size, 1, none⟩) (by simp; omega)).trans ((World.cell?_alloc_past _ _ _ (by show w.heap.size < _; omega)).trans k1)
        have j0 : w4.cell? ⟨w.heap.size + 1, 0, none⟩ = some (.int .i64 0) := (hb4.cell (p := ⟨w.heap.size + 1, 0, none⟩) (by simp; omega)).trans ((World.cell?_alloc_past _ _ _ (by show w.heap.size + 1 < _; omega)).trans j0)
        have j1 : w4.cell? ⟨w.heap.size + 1, 1, none⟩ = some (.int .i64 0) := (hb4.cell (p := ⟨w.heap.size + 1, 1, none⟩) (by simp; omega)).trans ((World.cell?_alloc_past _ _ _ (by show w.heap.size + 1 < _; omega)).trans j1)
        have j2 : w4.frozen? ⟨w.heap.size + 1, 0, none⟩ = false := (hb4.frozen (p := ⟨w.heap.size + 1, 0, none⟩) (by simp; omega)).trans ((World.frozen?_alloc_past _ _ _ (by show w.heap.size + 1 < _; omega)).trans j2)
        have j3 : w4.frozen? ⟨w.heap.size + 1, 1, none⟩ = false := (hb4.frozen (p := ⟨w.heap.size + 1, 1, none⟩) (by simp; omega)).trans ((World.frozen?_alloc_past _ _ _ (by show w.heap.size + 1 < _; omega)).trans j3)
        have hlt4 : w3.heap.size < w4.heap.size := by have := hb4.size; simp at this; omega
        have HB4 : Hid (Below w.heap.size w w4) := Lib.hid ((HB3.out.alloc (by omega) _).trans (hb4.mono (by simp; omega)))
        clear hb4 HB3 HRt
        cases hR : pRight m2 e2
        · rw [hR, if_neg (by decide)] at HD
          go_wp2_with fail
          refine bodyPost_ret (v := .agg #[.int .i64 m, .int .i64 e]) (by simp [results, Tryd.results124, go_sem, j0, j1]) rfl ?_
          exact ⟨by rw [HD.out], (HB4.out.setCell (p := ⟨w.heap.size + 1, 0, none⟩) (Nat.le_succ _) _).setCell (p := ⟨w.heap.size + 1, 1, none⟩) (Nat.le_succ _) _⟩
        · rw [hR, if_pos rfl] at HD
          go_wp2_with fail
          refine bodyPost_ret (v := .agg #[.int .i64 m2, .int .i64 e2]) (by simp [results, Tryd.results124, go_sem, j0, j1]) rfl ?_
          exact ⟨by rw [HD.out], (HB4.out.setCell (p := ⟨w.heap.size + 1, 0, none⟩) (Nat.le_succ _) _).setCell (p := ⟨w.heap.size + 1, 1, none⟩) (Nat.le_succ _) _⟩
set_option maxRecDepth 100000 in
set_option maxHeartbeats 1600000 in
theorem div64_small (n : Nat) (w : World) (h : n < 1000000000000000) :
    Calls Tryd.prog 121 #[.int .u64 0, .int .u64 (n : Int), .int .u64 1000000000000000] w fun e w' => e = .returned (.tuple #[.int .u64 0, .int .u64 (n : Int)]) ∧ Below w.heap.size w w' := by
  have hq : IntKind.u64.wrap ((n : Int) / 1000000000000000) = 0 := by rw [Int.ediv_eq_zero_of_lt (by omega) (by omega)]; rfl
  have hm : IntKind.u64.wrap ((n : Int) % 1000000000000000) = (n : Int) := by rw [Int.emod_eq_of_lt (by omega) (by omega)]; exact u64_wrap _ (by omega)
  have hm2 : (n : Int) % 1000000000000000 = (n : Int) := Int.emod_eq_of_lt (by omega) (by omega)
  have hn0 : (0 : Int) ≤ n := by omega
  have HM := Lib.hid hm
  have HM2 := Lib.hid hm2
  have HQ := Lib.hid hq
  clear h hm hq hm2
  go_enter Tryd.func121, Tryd.ntmps121
  go_wp2_with fail
  go_quiet (fail)
  go_wp2_with fail
  rw [HQ.out, HM2.out]
  go_ret2
  exact ⟨rfl, below_drewN (Below.refl _ _) _⟩
def dD (n : Nat) : List Nat := digL (Lib.decDigits n)
theorem dD_dig (n : Nat) : Dig (dD n) := fun d hd => by
  obtain ⟨c, hc, rfl⟩ := List.mem_map.1 hd
  have := (isDigit_iff c).1 ((dec_dig n).1 c hc)
  omega
theorem dD_nat (n : Nat) : natOf (dD n) = n := (dec_dig n).2
theorem own_at_iter {w : World} {base : Nat} {e : TypeId} {size : Nat} {v : Value} {n : Nat} {xs : List Value} (h : w.ownsRow base e size v n xs) {k : Nat} {s : ByteArray} {p : Nat} (hk : w.heap[k]? = some (.stringIter s p)) (p' : Nat) : (w.iterAt k s p').ownsRow base e size v n xs := by
  refine ⟨h.1, h.2.imp id ?_⟩
  rintro ⟨g, cap, cur, a1, a2, a3, a4⟩
  have hne : g ≠ k := fun e => by
    subst e
    rw [hk] at a3
    cases a3
  exact ⟨g, cap, cur, a1, a2, (Lib.iterAt_other w k g s p' hne).trans a3, a4⟩
theorem iter_grown {w w' : World} {base : Nat} {e : TypeId} {size : Nat} {v : Value} {n : Nat} {xs : List Value} (h : w.ownsRow base e size v n xs) {k : Nat} {s : ByteArray} {p : Nat} (hk : w.heap[k]? = some (.stringIter s p)) {o : Obj} (hg : (w.alloc o).grownBy w' v.ownBlock) : w'.heap[k]? = some (.stringIter s p) := by
  have hlt : k < w.heap.size := (Array.getElem?_eq_some_iff.1 hk).1
  rw [hg.block k (by simp; omega) ?_]
  · unfold World.alloc
    simp only
    rw [Array.getElem?_push_lt hlt]
    rw [Array.getElem?_eq_getElem hlt] at hk
    exact hk
  · rcases h.2 with ⟨rfl, _⟩ | ⟨g, cap, cur, rfl, -, a3, -⟩
    · simp [Value.ownBlock]
    · intro e
      simp only [Value.ownBlock, Option.some.injEq] at e
      subst e
      rw [hk] at a3
      cases a3
def DigPost (w : World) (L : List Nat) (e : Ending) (w' : World) : Prop := ∃ v, e = .returned v ∧ w'.ownsRow w.heap.size 5 1 v L.length (L.map byteV) ∧ Below w.heap.size w w'
set_option maxRecDepth 100000 in
set_option maxHeartbeats 3200000 in
theorem digitsOf_any (n : Nat) (w : World) (hn : n ≤ 9223372036854775807) (hp : PowTab w) :
    Calls Tryd.prog 122 #[.int .u64 (n : Int)] w (DigPost w (dD n)) := by
  obtain ⟨i0, hi, hz0, hz1, hz2⟩ := info_parts infoByte
  have CF := Lib.hid (fmt_any n (by omega) w hp)
  have hlen : 1 ≤ (Lib.decDigits n).length ∧ (Lib.decDigits n).length ≤ 20 := by
    have := dec_len (n : Int) (by omega) (by omega)
    simpa using this
  have HD := Lib.hid (dec_dig n).1
  unfold dD
  clear hn hp
  generalize Lib.decDigits n = t at *
  go_enter Tryd.func122, Tryd.ntmps122
  go_wp2_with fail
  refine CF.out.mono ?_
  rintro e w1 ⟨rfl, hb⟩
  obtain ⟨W2, hmk, hown, hgr⟩ := run_make_own (P := Tryd.prog) w1 w.heap.size 100 5 i0 (.int .u8 0) 1 Tryd.underlying100 hi hz0 hz1 .i64 .i64 t.length (by rw [hz2]; omega) (by unfold maxLen; omega) hb.size
  have HO2 := Lib.hid hown
  have HB2 : Hid (Below w.heap.size w W2) := Lib.hid (hb.trans ⟨hgr.os, hgr.tape, hgr.output, hgr.size, fun i hi => hgr.block i (Nat.lt_of_lt_of_le hi hb.size) (by simp)⟩)
  have HS : Hid ((ByteArray.mk t.toArray).size = t.length) := Lib.hid (by simp [ByteArray.size])
  clear hown hgr hb
  have HO3 : Hid ((W2.iter ⟨t.toArray⟩ 0).ownsRow w.heap.size 5 1 (.slice (some ⟨w1.heap.size, 0, none⟩) 0 t.length) 0 []) := Lib.hid (HO2.out.alloc _)
  have HI3 : Hid ((W2.iter ⟨t.toArray⟩ 0).heap[W2.heap.size]? = some (.stringIter ⟨t.toArray⟩ 0)) := Lib.hid (World.iter_heap W2 ⟨t.toArray⟩ 0)
  have HB3 : Hid (Below w.heap.size w (W2.iter ⟨t.toArray⟩ 0)) := Lib.hid (HB2.out.alloc HB2.out.size _)
  clear HO2
  have hk0 : w.heap.size ≤ W2.heap.size := HB2.out.size
  clear HB2
  go_wp2_with fail
  generalize hK : W2.heap.size = k at *
  have HK := Lib.hid hK
  clear hK hmk
  go_loopw [4, 6] (fun v _ wr => ∃ pos : Nat, pos ≤ t.length ∧ Hid (wr.ownsRow w.heap.size 5 1 v (digL (t.take pos)).length ((digL (t.take pos)).map byteV)) ∧ Hid (wr.heap[k]? = some (.stringIter ⟨t.toArray⟩ pos)) ∧ Hid (Below w.heap.size w wr)) (fun _ _ wr => t.length - wr.iterPos k)
  case atStart => exact ⟨0, Nat.zero_le _, HO3, HI3, HB3⟩
  case round =>
    obtain ⟨pos, hpos, hown, hit, hbel⟩ := hrel
    rename_i v _
    clear HO3 HI3 HB3 HK
    by_cases hp : pos < t.length
    · have hps : pos < (ByteArray.mk t.toArray).size := by rw [HS.out]; exact hp
      have hg : (ByteArray.mk t.toArray)[pos] = t[pos] := S_get t pos hps
      have hdg := (isDigit_iff t[pos]).1 (HD.out _ (List.getElem_mem hp))
      have hnx : ∀ ty, (Instr.next (.pointer (some ⟨k, 0, none⟩)) true ty).run Tryd.prog wr = .ok (.tuple #[.bool true, .int .i64 pos, .int .i32 (t[pos].toNat : Int)]) (wr.iterAt k ⟨t.toArray⟩ (pos + 1)) := by
        intro ty
        have := Lib.run_next_ascii_at (P := Tryd.prog) wr k ⟨t.toArray⟩ pos ty hit.out hps (by rw [hg]; omega)
        rw [hg] at this
        exact this
      have HO4 := Lib.hid (own_at_iter hown.out hit.out (pos + 1))
      have HI4 : Hid ((wr.iterAt k ⟨t.toArray⟩ (pos + 1)).heap[k]? = some (.stringIter ⟨t.toArray⟩ (pos + 1))) := Lib.hid (Lib.iterAt_heap wr k ⟨t.toArray⟩ pos (pos + 1) hit.out)
      have HB4 : Hid (Below w.heap.size w (wr.iterAt k ⟨t.toArray⟩ (pos + 1))) := Lib.hid (Lib.below_iterAt hbel.out hk0 ⟨t.toArray⟩ (pos + 1))
      have hp1 : Hid (wr.iterPos k = pos) := Lib.hid (by unfold World.iterPos; rw [hit.out])
      have hsn : Hid (digL (t.take (pos + 1)) = digL (t.take pos) ++ [t[pos].toNat - 48]) := Lib.hid (by rw [List.take_succ_eq_append_getElem hp, digL_append]; rfl)
      have hc0 : IntKind.u8.wrap ((t[pos].toNat : Int) - 48) = (t[pos].toNat : Int) - 48 := by
        have : (0 : Int) ≤ (t[pos].toNat : Int) - 48 ∧ (t[pos].toNat : Int) - 48 ≤ 9 := by omega
        generalize (t[pos].toNat : Int) - 48 = z at *
        unfold IntKind.wrap
        simp [IntKind.bits, IntKind.signed]
        omega
      have HC : Hid ((t[pos].toNat : Int) - 48 = ((t[pos].toNat - 48 : Nat) : Int)) := Lib.hid (by omega)
      have hlt8 : (t[pos].toNat : Int) - 48 ≤ 9 ∧ 0 ≤ (t[pos].toNat : Int) - 48 := by omega
      clear hown hit hbel hg hdg
      generalize wr.iterAt k ⟨t.toArray⟩ (pos + 1) = w4 at *
      generalize t[pos].toNat = c at *
      go_wp2_with (at_builtin; refine wpList_append_own _ rfl _ _ 100 rfl w.heap.size 5 i0 (.int .u8 0) 1 1 Tryd.underlying100 hi hz0 hz1 hz2 rfl (by decide) _ _ _ rfl (HO4.out.alloc _) ⟨w4.heap.size, 0, none⟩ 1 1 [.int .u8 ((c : Int) - 48)] rfl rfl ?c1 ?c2 ?c3 ?c4 ?c5 ?_)
      case c1 =>
        intro j u hj
        match j, hj with
        | 0, hj => simp at hj; subst hj; simp [Addr.add]
      case c2 =>
        intro u hu
        simp at hu
        subst hu
        rfl
      case c3 => rw [digL_len]; unfold maxLen; have := List.length_take_le pos t; omega
      case c4 => rw [digL_len]; have := List.length_take_le pos t; omega
      case c5 => have := HB4.out.size; simp; omega
      intro v' w5 hown' hgrow _
      have HO5 : Hid (w5.ownsRow w.heap.size 5 1 v' (digL (t.take (pos + 1))).length ((digL (t.take (pos + 1))).map byteV)) := Lib.hid (by
        rw [hsn.out, List.map_append, List.length_append]
        simpa [byteV, ← HC.out] using hown')
      have HI5 := Lib.hid (iter_grown HO4.out HI4.out hgrow)
      have HB5 : Hid (Below w.heap.size w w5) := Lib.hid ((HB4.out.alloc HB4.out.size _).grown hgrow (by have := HB4.out.size; simp; omega) (fun j hj => (HO4.out.lt j hj).1))
      have hp2 : Hid (w5.iterPos k = pos + 1) := Lib.hid (by unfold World.iterPos; rw [HI5.out])
      clear hown' hgrow HO4 HI4 HB4 hnx hc0 hlt8
      go_wp2_with fail
      go_roundw
      case rel => exact ⟨pos + 1, by omega, HO5, HI5, HB5⟩
      case measure => rw [hp2.out, hp1.out]; omega
    · have hnx : ∀ ty, (Instr.next (.pointer (some ⟨k, 0, none⟩)) true ty).run Tryd.prog wr = .ok (.tuple #[.bool false]) wr :=
        fun ty => Lib.run_next_end_at (P := Tryd.prog) wr k ⟨t.toArray⟩ pos ty hit.out (by rw [HS.out]; exact hp)
      have hall : Hid (t.take pos = t) := Lib.hid (List.take_of_length_le (by omega))
      clear hit
      go_wp2_with fail
      go_ret
      rw [hall.out] at hown
      exact ⟨_, rfl, hown.out, hbel.out⟩
theorem dD_len (k n : Nat) (h1 : 10 ^ k ≤ n) (h2 : n < 10 ^ (k + 1)) : (dD n).length = k + 1 := by
  unfold dD
  rw [digL_len, Lib.decDigits_length, Lib.nDigits_unique k n h1 h2]
theorem BRow.src {w : World} {b off : Nat} {L : List Nat} (h : BRow w b off L) : Src w (some ⟨b, off, none⟩) (L.map byteV) := by
  refine ⟨fun e => (by cases e), fun ad e j u hu => ?_⟩
  injection e with e
  subst e
  have hj : j < L.length := by
    have := (List.getElem?_eq_some_iff.1 hu).1
    simpa using this
  rw [List.getElem?_map, List.getElem?_eq_getElem hj] at hu
  simp only [Option.map_some, Option.some.injEq] at hu
  subst hu
  have hadd : (⟨b, off, none⟩ : Addr).add j = ⟨b, off + j, none⟩ := by
    unfold Addr.add
    by_cases e : j = 0
    · simp [e]
    · simp [e]
  rw [hadd]
  exact (h j hj).1
theorem dD_zero : dD 0 = [0] := by
  unfold dD
  rw [Lib.decDigits]
  rfl
theorem dD_lower (n : Nat) (h : n < 1000000000000000) : ∃ t, dD (1000000000000000 + n) = 1 :: t ∧ t.length = 15 ∧ natOf t = n := by
  have hl := dD_len 15 (1000000000000000 + n) (by omega) (by omega)
  have hd := dD_dig (1000000000000000 + n)
  have hn := dD_nat (1000000000000000 + n)
  cases hx : dD (1000000000000000 + n) with
  | nil => rw [hx] at hl; simp at hl
  | cons x t =>
    rw [hx] at hl hd hn
    have ht : t.length = 15 := by simpa using hl
    have hb := natOf_lt t hd.tail
    rw [natOf_cons, ht] at hn
    rw [ht] at hb
    have hx1 : x = 1 := by
      have : (10 : Nat) ^ 15 = 1000000000000000 := by decide
      rw [this] at hn hb
      omega
    subst hx1
    exact ⟨t, rfl, ht, by have : (10 : Nat) ^ 15 = 1000000000000000 := by decide
                          omega⟩
/-- times a hundred, of a right number not below 0 -/
def mulOut (m e : Int) : Value := numOut (pNear (decide (m < 0)) m.natAbs (e + 2))
set_option maxRecDepth 100000 in
set_option maxHeartbeats 3200000 in
theorem mul_hundred (m e : Int) (w : World) (hp : PowTab w) (hR : pRight m e = true) :
    Calls Tryd.prog 91 #[numV m e, numV 1 2] w fun x w' => x = .returned (mulOut m e) ∧ Below w.heap.size w w' := by
  obtain ⟨a1, a2⟩ := rb hR
  have HR := Lib.hid (fun W => right_any m e W (by omega) (by omega))
  have HR1 := Lib.hid (fun W => right_any 1 2 W (by decide) (by decide))
  rw [hR] at HR
  have h12 : pRight 1 2 = true := by decide
  rw [h12] at HR1
  have hs := Lib.hid (fun W => size_any m W (by omega) (by omega))
  have hs1 := Lib.hid (fun W => size_any 1 W (by decide) (by decide))
  have T0 := Lib.hid (TwoNum.start w m e 1 2)
  have HP := Lib.hid hp
  have hR0 := Lib.hid hR
  clear hp hR h12
  have hs1' : Hid (∀ W, Calls Tryd.prog 40 #[.int .i64 1] W fun e w' => e = .returned (.int .u64 1) ∧ W = w') := Lib.hid (by simpa using hs1.out)
  have HM : Hid (∀ W, Calls Tryd.prog 112 #[.int .u64 (m.natAbs : Int), .int .u64 1] W fun e w' => e = .returned (.tuple #[.int .u64 0, .int .u64 (m.natAbs : Int)]) ∧ W = w') := Lib.hid (fun W => by
    have := Tryd.bits_Mul64 m.natAbs 1 (by omega) (by decide) W
    rw [Nat.mul_one, Nat.div_eq_of_lt (by omega), Nat.mod_eq_of_lt (by omega)] at this
    exact this.mono fun _ _ h => ⟨h.1, h.2.symm⟩)
  have HDv := Lib.hid (fun W => div64_small m.natAbs W (by omega))
  have HD0 := Lib.hid (fun W h => digitsOf_any 0 W (by decide) h)
  rw [dD_zero] at HD0
  obtain ⟨t, ht, htl, htn⟩ := dD_lower m.natAbs (by omega)
  have HD1 := Lib.hid (fun W h => digitsOf_any (1000000000000000 + m.natAbs) W (by omega) h)
  rw [ht, show ((1000000000000000 + m.natAbs : Nat) : Int) = 1000000000000000 + (m.natAbs : Int) by omega] at HD1
  have HDig : Hid (Dig t) := Lib.hid (by have := dD_dig (1000000000000000 + m.natAbs); rw [ht] at this; exact this.tail)
  have HTL := Lib.hid htl
  have HTN := Lib.hid htn
  have he : -1000 ≤ e ∧ e ≤ 1000 := by
    by_cases hz : m = 0
    · subst hz
      have := hR0.out
      unfold pRight at this
      rw [if_pos rfl] at this
      have := of_decide_eq_true this
      omega
    · have := pRight_of hR0.out hz
      omega
  have HE := Lib.hid he
  have TR : Hid (Lies (((w.alloc (.cells #[.int .i64 m, .int .i64 e] 23)).alloc (.cells #[.int .i64 1, .int .i64 2] 23)).alloc (.cells #[.int .i64 0, .int .i64 0] 23)) (w.heap.size + 2) 23 #[.int .i64 0, .int .i64 0]) := Lib.hid (by
    have := Lies.new ((w.alloc (.cells #[.int .i64 m, .int .i64 e] 23)).alloc (.cells #[.int .i64 1, .int .i64 2] 23)) 23 #[.int .i64 0, .int .i64 0]
    simpa using this)
  have hbA : Below ((w.alloc (.cells #[.int .i64 m, .int .i64 e] 23)).alloc (.cells #[.int .i64 1, .int .i64 2] 23)).heap.size ((w.alloc (.cells #[.int .i64 m, .int .i64 e] 23)).alloc (.cells #[.int .i64 1, .int .i64 2] 23)) (((w.alloc (.cells #[.int .i64 m, .int .i64 e] 23)).alloc (.cells #[.int .i64 1, .int .i64 2] 23)).alloc (.cells #[.int .i64 0, .int .i64 0] 23)) := (Below.refl _ _).alloc (Nat.le_refl _) _
  have T0' := Lib.hid (T0.out.next hbA)
  clear hs1 ht htl htn he hR0 T0 hbA
  go_enter Tryd.func91, Tryd.ntmps91
  go_wp2_with fail
  refine (HR.out _).mono ?_
  rintro z w1 ⟨rfl, hb⟩
  have T1 := Lib.hid (T0'.out.next hb)
  have TR1 := Lib.hid (Lies.below TR.out hb)
  clear hb TR T0' HR
  obtain ⟨g0, g1, g2, g3, g4, g5⟩ := T1.out
  go_wp2_with fail
  refine (HR1.out _).mono ?_
  rintro z w2 ⟨rfl, hb⟩
  have T2 := Lib.hid (T1.out.next hb)
  have TR2 := Lib.hid (Lies.below TR1.out hb)
  clear hb TR1 T1 g0 g1 g2 g3 g4 g5 HR1
  obtain ⟨g0, g1, g2, g3, g4, g5⟩ := T2.out
  go_wp2_with fail
  go_quiet (first | (go_at_call_of 40 m; exact quiet_left (hs.out _)) | (go_at_call_of 40 (1 : Int); exact quiet_left (hs1'.out _)) | (go_at_call 112; exact quiet_left (HM.out _)))
  have hbq : Below w2.heap.size w2 (w2.drewN nq) := below_drewN (Below.refl _ _) nq
  have T3 := Lib.hid (T2.out.next hbq)
  have TR3 := Lib.hid (Lies.below TR2.out hbq)
  clear hbq T2 TR2 hs hs1' HM g0 g1 g2 g3 g4 g5
  go_wp2_with fail
  refine (HDv.out _).mono ?_
  rintro z w4 ⟨rfl, hb⟩
  have T4 := Lib.hid (T3.out.next hb)
  have TR4 := Lib.hid (Lies.below TR3.out hb)
  clear hb T3 TR3 HDv
  have HP4 : Hid (PowTab w4) := Lib.hid (HP.out.next T4.out.2.2.2.2.2)
  go_wp2_with fail
  refine (HD0.out _ HP4.out).mono ?_
  rintro z w5 ⟨v5, rfl, ho5, hb⟩
  have HB5 := Lib.hid hb
  have HO5 : Hid (w5.ownsRow w4.heap.size 5 1 v5 1 [byteV 0]) := Lib.hid ho5
  have HP5 : Hid (PowTab w5) := Lib.hid (HP4.out.next hb)
  clear hb HD0 ho5 HP4
  go_wp2_with fail
  refine (HD1.out _ HP5.out).mono ?_
  rintro z w6 ⟨v6, rfl, ho6, hb⟩
  have HB6 : Hid (Below w4.heap.size w4 w6) := Lib.hid (HB5.out.trans (hb.mono HB5.out.size))
  have HO6 := Lib.hid (own_next hb HO5.out)
  obtain ⟨g, cap, rfl, hsl, hrow⟩ := own_sl ho6 (Nat.le_refl _) (by simp)
  have hc16 : 16 ≤ cap := by have := hsl.1; simp [HTL.out] at this; omega
  have hcm : cap ≤ 9223372036854775807 := by have := hsl.2.1; simpa [maxLen] using this
  have HSrc := Lib.hid (BRow.src (BRow.drop hrow 1))
  have hl16 : (1 :: t).length = 16 := by simp [HTL.out]
  have HL16 := Lib.hid hl16
  clear hb HB5 HD1 HO5 HP5 ho6 hsl hrow hl16
  rw [HL16.out]
  have hones : ∀ u ∈ t.map byteV, u.oneCell' = true := by
    intro u hu
    obtain ⟨d, -, rfl⟩ := List.mem_map.1 hu
    rfl
  have HOnes := Lib.hid hones
  clear hones
  obtain ⟨i0, hi, hz0, hz1, hz2⟩ := info_parts infoByte
  obtain ⟨he1, he2⟩ := HE.out
  go_wp2_with (at_builtin; refine wpList_append_src _ rfl (.tmp 38) (.tmp 42) 100 rfl w4.heap.size 5 i0 (.int .u8 0) 1 Tryd.underlying100 hi hz0 hz1 hz2 rfl v5 1 [byteV 0] rfl HO6.out (some ⟨g, 1, none⟩) 15 (cap - 1) (t.map byteV) rfl (by rw [List.length_map]; exact HTL.out) HSrc.out HOnes.out ?c3 ?c4 ?c5 ?_)
  case c3 => decide
  case c4 => decide
  case c5 => exact HB6.out.size
  intro v8 w8 hown8 hgr8 _
  have HB8 : Hid (Below w4.heap.size w4 w8) := Lib.hid (HB6.out.grown hgr8 HB6.out.size (fun j hj => (HO6.out.lt j hj).1))
  have T8 := Lib.hid (T4.out.next HB8.out)
  have TR8 := Lib.hid (Lies.below TR4.out HB8.out)
  have l16 : (0 :: t).length = 1 + 15 := by simp [HTL.out]
  obtain ⟨g8, cap8, rfl, hsl8, hrow8⟩ := own_sl (ds := 0 :: t) (by rw [l16]; exact hown8) (Nat.le_refl _) (by simp)
  have hg8 : g8 < w8.heap.size := by
    obtain ⟨b, off, e1, _, e3, _⟩ := hsl8.2.2 (by simp)
    injection e1 with e1
    injection e1 with e1 _ _
    omega
  have CR := Lib.hid (round_any (decide (m < 0)) _ cap8 w4.heap.size (0 :: t) (e + 2) w8 hsl8 HB8.out.size (fun a h => by injection h with h; subst h; exact hg8) (Dig.cons (by decide) HDig.out) (by rw [l16]; decide) (by omega) (by omega))
  have hN : natOf (0 :: t) = m.natAbs := by rw [natOf_cons, HTN.out]; omega
  rw [hN] at CR
  have HL := Lib.hid l16
  clear hown8 hgr8 HO6 HSrc HOnes hsl8 hrow8 l16 HB6 hN HTN HDig hc16 hcm
  rw [HL.out] at CR ⊢
  obtain ⟨g0, g1, g2, g3, g4, g5⟩ := T8.out
  go_wp2_with fail
  refine CR.out.mono ?_
  rintro z w9 ⟨rfl, hb⟩
  have HB9 : Hid (Below w4.heap.size w4 w9) := Lib.hid (HB8.out.trans hb)
  have HF : Hid (Below w.heap.size w w9) := Lib.hid (T4.out.next HB9.out).2.2.2.2.2
  have TR9 : Hid (Lies w9 (w.heap.size + 2) 23 #[.int .i64 0, .int .i64 0]) := Lib.hid (Lies.below TR4.out HB9.out)
  have q0 := TR9.out.cell 0
  have q1 := TR9.out.cell 1
  have f0 := TR9.out.frozen 0
  have f1 := TR9.out.frozen 1
  simp only [List.getElem?_toArray, List.getElem?_cons_zero, List.getElem?_cons_succ] at q0 q1
  clear hb HB8 T8 TR8 T4 TR4 g0 g1 g2 g3 g4 g5 CR HB9
  cases hp : pNear (decide (m < 0)) m.natAbs (e + 2) with
  | none =>
    have HMO : Hid (mulOut m e = numOut (pNear (decide (m < 0)) m.natAbs (e + 2))) := Lib.hid rfl
    rw [hp] at HMO
    unfold numOut
    go_wp2_with fail
    refine bodyPost_ret (v := .tuple #[.agg #[.int .i64 0, .int .i64 0], .bool false]) (by simp [results, Tryd.results91, go_sem, q0, q1]) rfl ?_
    exact ⟨by rw [HMO.out]; rfl, (HF.out.setCell (p := ⟨w.heap.size + 1 + 1, 0, none⟩) (by show _ ≤ w.heap.size + 1 + 1; omega) _).setCell (p := ⟨w.heap.size + 1 + 1, 1, none⟩) (by show _ ≤ w.heap.size + 1 + 1; omega) _⟩
  | some q =>
    obtain ⟨M, E⟩ := q
    have HMO : Hid (mulOut m e = numOut (pNear (decide (m < 0)) m.natAbs (e + 2))) := Lib.hid rfl
    rw [hp] at HMO
    unfold numOut
    go_wp2_with fail
    refine bodyPost_ret (v := .tuple #[.agg #[.int .i64 M, .int .i64 E], .bool true]) (by simp [results, Tryd.results91, go_sem, q0, q1]) rfl ?_
    exact ⟨by rw [HMO.out]; rfl, (HF.out.setCell (p := ⟨w.heap.size + 1 + 1, 0, none⟩) (by show _ ≤ w.heap.size + 1 + 1; omega) _).setCell (p := ⟨w.heap.size + 1 + 1, 1, none⟩) (by show _ ≤ w.heap.size + 1 + 1; omega) _⟩
end Go.Proofs.YteccjdclkcipbaaDoor
