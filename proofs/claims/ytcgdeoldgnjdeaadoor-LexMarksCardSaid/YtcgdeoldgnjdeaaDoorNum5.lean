/-
  num.trimmed: what it returns.
-/
import Derived.Test.YtcgdeoldgnjdeaaDoorNum1
import Derived.Test.YtcgdeoldgnjdeaaDoorPl1
namespace Go.Proofs.YtcgdeoldgnjdeaaDoor
open Go.RowKit

def sg (neg : Bool) (n : Nat) : Int := if neg then -(n : Int) else n
theorem pow_bd {x k n : Nat} (hx : 0 < x) (h : x * 10 ^ k = n) (hn : n ≤ 1000000000000000) : k ≤ 15 := by
  have h1 : 10 ^ k ≤ 10 ^ 15 := by
    have : 1 * 10 ^ k ≤ x * 10 ^ k := Nat.mul_le_mul_right _ hx
    have e : (10 : Nat) ^ 15 = 1000000000000000 := by decide
    omega
  have : k < 16 := pow_lt_inv (Nat.lt_of_le_of_lt h1 (by decide))
  omega
theorem pTrim_pow (x k : Nat) (e : Int) (hx : 0 < x) : pTrim (x * 10 ^ k) e = pTrim x (e + k) := by
  induction k generalizing e with
  | zero => simp
  | succ k ih =>
    have h1 : x * 10 ^ (k + 1) = x * 10 ^ k * 10 := by rw [Nat.pow_succ, Nat.mul_assoc]
    have hp : 0 < x * 10 ^ k := Nat.mul_pos hx (Nat.pow_pos (by decide))
    rw [h1, pTrim_step _ e (by omega) (by omega), Nat.mul_div_cancel _ (by decide), ih]
    congr 1
    omega
set_option maxRecDepth 100000 in
set_option maxHeartbeats 1600000 in
theorem trimmed_any (neg : Bool) (n : Nat) (e : Int) (w : World) (hn : n ≤ 1000000000000000) (he1 : -3000000 ≤ e) (he2 : e ≤ 3000000) :
    Calls Tryd.prog 141 #[.bool neg, .int .u64 (n : Int), .int .i64 e] w fun x w' => x = .returned (numV (sg neg (pTrim n e).1) (pTrim n e).2) ∧ Below w.heap.size w w' := by
  have hB : Below w.heap.size w (w.alloc (.cells #[.int .i64 0, .int .i64 0] 39)) := (Below.refl _ w).alloc (Nat.le_refl _) _
  have HB := Lib.hid hB
  have HN := Lib.hid hn
  clear hB hn
  by_cases h0 : n = 0
  · subst h0
    have hr : Hid (numV (sg neg (pTrim 0 e).1) (pTrim 0 e).2 = numV 0 0) := Lib.hid (by rw [pTrim_zero]; cases neg <;> rfl)
    rw [hr.out]
    clear hr
    go_enter Tryd.func141, Tryd.ntmps141
    go_wp2_with fail
    refine bodyPost_ret (v := .agg #[.int .i64 0, .int .i64 0]) (by simp [results, Tryd.results141, go_sem]) rfl ?_
    exact ⟨rfl, (Below.refl _ w).alloc (Nat.le_refl _) _⟩
  · have b0 : ((n : Int) == 0) = false := by rw [beq_eq_false_iff_ne]; omega
    have HP : Hid (0 < n) := Lib.hid (by omega)
    clear h0
    have HQ : Hid (∀ x k : Nat, 0 < x → x * 10 ^ k = n → pTrim n e = pTrim x (e + k)) := Lib.hid (fun x k h1 h2 => by rw [← h2]; exact pTrim_pow x k e h1)
    generalize pTrim n e = r at *
    go_enter Tryd.func141, Tryd.ntmps141
    go_wp2_with fail
    go_loop [1, 2] (fun v x => ∃ (y k : Nat), v = .int .u64 y ∧ x = .int .i64 (e + k) ∧ Hid (0 < y) ∧ Hid (y * 10 ^ k = n)) (fun v _ => (intOf v).toNat)
    case atStart => exact ⟨n, 0, rfl, by simp, HP, Lib.hid (by simp)⟩
    case round =>
      obtain ⟨y, k, rfl, rfl, hy, hq⟩ := hrel
      have hk := pow_bd hy.out hq.out HN.out
      by_cases hm : y % 10 = 0
      · have bm : ((y : Int) % 10 == 0) = true := by rw [beq_iff_eq]; omega
        have hw : Hid (IntKind.u64.wrap ((y : Int) / 10) = ((y / 10 : Nat) : Int)) := Lib.hid (by
          have h1 : y * 1 ≤ y * 10 ^ k := Nat.mul_le_mul_left _ (Nat.pow_pos (by decide))
          rw [u64_wrap _ (by have := hq.out; have := HN.out; omega)]; omega)
        have hy2 : Hid (0 < y / 10) := Lib.hid (by have := hy.out; omega)
        have hq2 : Hid (y / 10 * 10 ^ (k + 1) = n) := Lib.hid (by
          rw [← hq.out, Nat.pow_succ, Nat.mul_comm (10 ^ k) 10, ← Nat.mul_assoc]; congr 1; omega)
        have hk2 : Hid (e + (k : Int) + 1 = e + ((k + 1 : Nat) : Int)) := Lib.hid (by omega)
        have hlt : Hid (y / 10 < y) := Lib.hid (by have := hy.out; omega)
        clear hm
        go_wp2_with fail
        go_round
        case rel => exact ⟨y / 10, k + 1, by rw [hw.out], by rw [← hk2.out], hy2, hq2⟩
        case measure => rw [hw.out]; simp [intOf]; have := hlt.out; omega
      · have bm : ((y : Int) % 10 == 0) = false := by rw [beq_eq_false_iff_ne]; omega
        have hr : Hid (r = (y, e + (k : Int))) := Lib.hid (by rw [HQ.out y k hy.out hq.out]; exact pTrim_stop y _ hm)
        have hyb : (y : Int) ≤ 9223372036854775807 := by
          have h1 : y * 1 ≤ y * 10 ^ k := Nat.mul_le_mul_left _ (Nat.pow_pos (by decide))
          have := hq.out
          have := HN.out
          omega
        clear hm
        cases neg
        · go_wp2_with fail
          refine bodyPost_ret (v := .agg #[.int .i64 y, .int .i64 (e + k)]) (by simp [results, Tryd.results141, go_sem]) rfl ?_
          exact ⟨by rw [hr.out]; rfl, (Below.refl _ w).alloc (Nat.le_refl _) _⟩
        · go_wp2_with fail
          refine bodyPost_ret (v := .agg #[.int .i64 (-(y : Int)), .int .i64 (e + k)]) (by simp [results, Tryd.results141, go_sem]) rfl ?_
          exact ⟨by rw [hr.out]; rfl, (Below.refl _ w).alloc (Nat.le_refl _) _⟩
end Go.Proofs.YtcgdeoldgnjdeaaDoor
