/-
  Small lemmas; num: size, count, power, sign, Right (merged: Util, Num1).
-/
import Derived.Test.YtpdaloohgfnbhaaGreatDoorKit
import Derived.Test.YtpdaloohgfnbhaaGreatDoorPl1
namespace Go.Proofs.YtpdaloohgfnbhaaGreatDoor
open Go.RowKit

theorem quiet_left {P : Program} {f : FuncId} {args : Array Value} {w : World} {n : Nat} {v : Value}
    (h : Calls P f args (w.drewN n) fun e w' => e = .returned v ∧ w.drewN n = w') : Calls P f args (w.drewN n) fun e w'' => e = .returned v ∧ ∃ m, w'' = w.drewN m :=
  h.mono fun _ _ ⟨he, hm⟩ => ⟨he, n, hm.symm⟩
theorem quiet_add_left {P : Program} {f : FuncId} {args : Array Value} {w : World} {a n : Nat} {v : Value}
    (h : Calls P f args (w.drewN (a + n)) fun e w' => e = .returned v ∧ w.drewN (a + n) = w') :
    Calls P f args (w.drewN (a + n)) fun e w'' => e = .returned v ∧ ∃ m, w'' = w.drewN (a + m) :=
  h.mono fun _ _ ⟨he, hm⟩ => ⟨he, n, hm.symm⟩
theorem u64_wrap (n : Int) (h : 0 ≤ n ∧ n ≤ 18446744073709551615) : IntKind.u64.wrap n = n := by
  simp [IntKind.wrap, IntKind.bits, IntKind.signed]; omega
set_option maxHeartbeats 400000 in
theorem size_any (m : Int) (w : World) (h1 : -9223372036854775808 ≤ m) (h2 : m ≤ 9223372036854775807) :
    Calls Tryz.prog 92 #[.int .i64 m] w fun e w' => e = .returned (.int .u64 (m.natAbs : Int)) ∧ w = w' := by
  by_cases h : m < 0
  · go_enter Tryz.func92, Tryz.ntmps92
    go_wp2
    go_ret
    exact ⟨ret_int (by simp [IntKind.wrap, IntKind.bits, IntKind.signed]; omega), rfl⟩
  · go_enter Tryz.func92, Tryz.ntmps92
    go_wp2
    go_ret
    exact ⟨ret_int (by omega), rfl⟩
set_option maxHeartbeats 400000 in
theorem count_any (n : Nat) (w : World) (h : n < 18446744073709551616) :
    Calls Tryz.prog 105 #[.int .u64 n] w fun e w' => e = .returned (.int .i64 (digs n)) ∧ w = w' := by
  have HN : Hid (n < 18446744073709551616) := Lib.hid h
  clear h
  have HD : Hid (digs n = digs n) := Lib.hid rfl
  go_enter Tryz.func105, Tryz.ntmps105
  go_wp2
  go_loop [0, 3] (fun v d => ∃ (x k : Nat), v = .int .u64 x ∧ d = .int .i64 k ∧ k ≤ 21 ∧ x ≤ n ∧ Hid (k + digs x = digs n + 1)) (fun v _ => (intOf v).toNat)
  case atStart => exact ⟨n, 1, rfl, rfl, by omega, Nat.le_refl _, Lib.hid (by omega)⟩
  case round =>
    obtain ⟨x, k, rfl, rfl, hk, hx, hq⟩ := hrel
    have hd := digs_le n
    have hdx := digs_le x
    by_cases h10 : x < 10
    · have hq2 : Hid (k = digs n) := Lib.hid (by have := hq.out; rw [digs_small x h10] at this; omega)
      go_wp2
      go_ret
      exact ⟨ret_int (by rw [hq2.out]), rfl⟩
    · have hb := digs_big x h10 (by have := HN.out; omega)
      have hq2 : Hid (k + 1 + digs (x / 10) = digs n + 1) := Lib.hid (by have := hq.out; omega)
      have hk2 : k + 1 ≤ 21 := by have := hq.out; have := digs_le (x / 10); omega
      clear hb
      have hw : Hid (IntKind.u64.wrap ((x : Int) / 10) = ((x / 10 : Nat) : Int)) := Lib.hid (by rw [u64_wrap _ (by have := HN.out; omega)]; omega)
      go_wp2
      go_round
      case rel => exact ⟨x / 10, k + 1, by rw [hw.out], by go_num, hk2, by omega, hq2⟩
      case measure => rw [hw.out]; simp [intOf]; omega
set_option maxHeartbeats 400000 in
theorem power_any (n : Nat) (w : World) (h : n ≤ 15) :
    Calls Tryz.prog 93 #[.int .i64 n] w fun e w' => e = .returned (.int .u64 (p10 n : Int)) ∧ w = w' := by
  go_enter Tryz.func93, Tryz.ntmps93
  go_wp2
  go_loop [3, 5] (fun v i => ∃ (k p : Nat), v = .int .u64 p ∧ i = .int .i64 k ∧ k ≤ n ∧ Hid (p = 10 ^ k)) (fun _ i => n - (intOf i).toNat)
  case atStart => exact ⟨0, 1, rfl, rfl, Nat.zero_le _, Lib.hid rfl⟩
  case round =>
    obtain ⟨k, p, rfl, rfl, hk, hq⟩ := hrel
    by_cases hlt : k < n
    · have hp : p ≤ 10 ^ 14 := by rw [hq.out]; exact Nat.pow_le_pow_right (by decide) (by omega)
      have hw : Hid (IntKind.u64.wrap ((p : Int) * 10) = ((p * 10 : Nat) : Int)) := Lib.hid (by rw [u64_wrap _ (by omega)]; omega)
      have hq2 : Hid (p * 10 = 10 ^ (k + 1)) := Lib.hid (by rw [Nat.pow_succ, hq.out])
      clear hp
      go_wp2
      go_round
      case rel => exact ⟨k + 1, p * 10, by rw [hw.out], by go_num, by omega, hq2⟩
      case measure => simp [intOf]; omega
    · have e : Hid (p = p10 n) := Lib.hid (by rw [hq.out]; show 10 ^ k = 10 ^ n; congr 1; omega)
      go_wp2
      go_ret
      exact ⟨ret_int (by rw [e.out]), rfl⟩
/-- the values of a number's two fields -/
abbrev numV (m e : Int) : Value := .agg #[.int .i64 m, .int .i64 e]
def sgn (m : Int) : Int := if m < 0 then -1 else if 0 < m then 1 else 0
set_option maxRecDepth 100000 in
set_option maxHeartbeats 800000 in
theorem right_any (m e : Int) (w : World) (h1 : -9223372036854775808 ≤ m) (h2 : m ≤ 9223372036854775807) :
    Calls Tryz.prog 82 #[numV m e] w fun x w' => x = .returned (.bool (pRight m e)) ∧ Below w.heap.size w w' := by
  have hN : pRight m e = if m = 0 then decide (e = 0) else decide (m.natAbs < 1000000000000000) && decide (m.natAbs % 10 ≠ 0) && decide (-40 ≤ e) && decide (e < 40) && decide ((digs m.natAbs : Int) + e ≤ 40) := rfl
  have HN := Lib.hid hN
  clear hN
  generalize pRight m e = r at *
  have HB : Hid (Below w.heap.size w (w.alloc (.cells #[.int .i64 m, .int .i64 e] 33))) := Lib.hid ((Below.refl _ w).alloc (Nat.le_refl _) _)
  by_cases h0 : m = 0
  · rw [if_pos h0] at HN
    subst h0
    go_enter Tryz.func82, Tryz.ntmps82
    go_wp2_with fail
    go_ret
    exact ⟨ret_bool (by rw [HN.out]; rfl), HB.out⟩
  · rw [if_neg h0] at HN
    have b0 : (m == 0) = false := by rw [beq_eq_false_iff_ne]; exact h0
    have hx : m.natAbs < 18446744073709551616 := by omega
    have hd := digs_le m.natAbs
    clear h0
    go_enter Tryz.func82, Tryz.ntmps82
    go_wp2_with fail
    refine (size_any m _ h1 h2).mono ?_
    rintro e1 w' ⟨rfl, rfl⟩
    generalize m.natAbs = x at *
    have HX := Lib.hid hx
    have H1 := Lib.hid h1
    have H2 := Lib.hid h2
    clear hx h1 h2
    by_cases c1 : x < 1000000000000000
    · have d1 : decide ((1000000000000000 : Int) ≤ (x : Int)) = false := by simp; omega
      rw [decide_eq_true c1] at HN
      clear c1
      by_cases c2 : x % 10 ≠ 0
      · have b2 : ((x : Int) % 10 == 0) = false := by rw [beq_eq_false_iff_ne]; omega
        rw [decide_eq_true c2] at HN
        clear c2
        by_cases c3 : -40 ≤ e
        · by_cases c4 : e < 40
          · rw [decide_eq_true c3, decide_eq_true c4] at HN
            have hcn : Hid (r = decide ((digs x : Int) + e ≤ 40)) := Lib.hid (by rw [HN.out]; rfl)
            clear HN
            go_wp2_with fail
            go_quiet ((go_at_call 105; exact quiet_left (count_any x _ HX.out)))
            go_wp2_with fail
            go_ret
            exact ⟨ret_bool (by rw [hcn.out]), below_drewN HB.out _⟩
          · rw [decide_eq_false c4] at HN
            have hcn : Hid (r = false) := Lib.hid (by rw [HN.out]; simp)
            clear HN
            go_wp2_with fail
            go_ret
            exact ⟨ret_bool (by rw [hcn.out]), HB.out⟩
        · rw [decide_eq_false c3] at HN
          have hcn : Hid (r = false) := Lib.hid (by rw [HN.out]; simp)
          clear HN
          go_wp2_with fail
          go_ret
          exact ⟨ret_bool (by rw [hcn.out]), HB.out⟩
      · have b2 : ((x : Int) % 10 == 0) = true := by rw [beq_iff_eq]; omega
        rw [decide_eq_false c2] at HN
        have hcn : Hid (r = false) := Lib.hid (by rw [HN.out]; simp)
        clear HN c2
        go_wp2_with fail
        go_ret
        exact ⟨ret_bool (by rw [hcn.out]), HB.out⟩
    · have d1 : decide ((1000000000000000 : Int) ≤ (x : Int)) = true := by simp; omega
      rw [decide_eq_false c1] at HN
      have hcn : Hid (r = false) := Lib.hid (by rw [HN.out]; simp)
      clear HN c1
      go_wp2_with fail
      go_ret
      exact ⟨ret_bool (by rw [hcn.out]), HB.out⟩
end Go.Proofs.YtpdaloohgfnbhaaGreatDoor
