/-
  counterpaneref01.Right: what it returns.
-/
import Derived.Test.YtcgdeoldgnjdeaaDoorRefA2
namespace Go.Proofs.YtcgdeoldgnjdeaaDoor
open Go.RowKit

theorem dec_field1 (b : Bool) (A : Option Addr) (n c : Nat) (e : Int) (W : World) : (Instr.field 124 (.agg #[.bool b, .slice A n c, .int .i64 e]) 1).run Tryd.prog W = .ok (.slice A n c) W := by kernel_rfl
/-- a number in a box of the call's own -/
def NumIn (w : World) (m e : Int) (w' : World) : Prop := w.heap.size < w'.heap.size ∧ w'.cell? ⟨w.heap.size, 0, none⟩ = some (.int .i64 m) ∧ w'.cell? ⟨w.heap.size, 1, none⟩ = some (.int .i64 e) ∧ Below w.heap.size w w'
theorem NumIn.start (w : World) (m e : Int) : NumIn w m e (w.alloc (.cells #[.int .i64 m, .int .i64 e] 39)) := ⟨by simp, by simp, by simp, (Below.refl _ w).alloc (Nat.le_refl _) _⟩
theorem NumIn.next {w w' w'' : World} {m e : Int} (h : NumIn w m e w') (hb : Below w'.heap.size w' w'') : NumIn w m e w'' := by
  obtain ⟨h1, h2, h3, h4⟩ := h
  have hs := hb.size
  exact ⟨by omega, (hb.cell (p := ⟨_, _, none⟩) h1).trans h2, (hb.cell (p := ⟨_, _, none⟩) h1).trans h3, h4.trans (hb.mono h4.size)⟩
theorem NumIn.drew {w w' : World} {m e : Int} (h : NumIn w m e w') : NumIn w m e w'.drew := h.next (Below.refl _ _).drew
theorem tmod_zero (m : Int) : m.tmod 10 = 0 ↔ m.natAbs % 10 = 0 := by
  rcases Int.le_total 0 m with h | h
  · rw [Int.tmod_eq_emod_of_nonneg h]; omega
  · obtain ⟨k, rfl⟩ : ∃ k : Int, m = -k := ⟨-m, by omega⟩
    rw [Int.neg_tmod, Int.tmod_eq_emod_of_nonneg (by omega)]; omega
theorem pRight_ref (m e : Int) (h0 : m ≠ 0) : pRight m e = (decide (m < 1000000000000000) && decide (-1000000000000000 < m) && decide (m.natAbs % 10 ≠ 0) && decide (-40 ≤ e) && decide (e ≤ 40) && decide (((dl m.natAbs).length : Int) + e ≤ 40)) := by
  unfold pRight
  rw [if_neg h0, dl_len]
  by_cases hb : m.natAbs < 1000000000000000
  · have hp : 0 < m.natAbs := by omega
    have hd := dlen_digs m.natAbs hp hb
    have hd1 := dlen_pos m.natAbs hp
    rw [hd, decide_eq_true hb, decide_eq_true (by omega : m < 1000000000000000), decide_eq_true (by omega : -1000000000000000 < m)]
    by_cases hs : (dlen m.natAbs : Int) + e ≤ 40
    · rw [decide_eq_true hs, decide_eq_true (by omega : e < 40), decide_eq_true (by omega : e ≤ 40)]
      simp
    · rw [decide_eq_false hs]
      simp
  · rw [decide_eq_false hb]
    by_cases hc : m < 1000000000000000
    · rw [decide_eq_false (by omega : ¬ -1000000000000000 < m)]
      simp
    · rw [decide_eq_false hc]
      simp
set_option maxRecDepth 100000 in
set_option maxHeartbeats 3200000 in
theorem rRight_any (m e : Int) (w : World) (h1 : -9223372036854775808 ≤ m) (h2 : m ≤ 9223372036854775807) :
    Calls Tryd.prog 68 #[numV m e] w fun x w' => x = .returned (.bool (pRight m e)) ∧ Below w.heap.size w w' := by
  have HB : Hid (Below w.heap.size w (w.alloc (.cells #[.int .i64 m, .int .i64 e] 39))) := Lib.hid ((Below.refl _ w).alloc (Nat.le_refl _) _)
  by_cases h0 : m = 0
  · have hr : Hid (pRight m e = decide (e = 0)) := Lib.hid (if_pos h0)
    subst h0
    generalize pRight 0 e = r at *
    go_enter Tryd.func68, Tryd.ntmps68
    go_wp2_with fail
    go_ret
    exact ⟨ret_bool (by rw [hr.out]; rfl), HB.out⟩
  have HR := Lib.hid (pRight_ref m e h0)
  have HOf := Lib.hid (fun W => rOf_any m e W h1 h2)
  have hlen : (dl m.natAbs).length ≤ 20 := dl_len_le _ (by omega)
  generalize pRight m e = r at *
  have b0 : (m == 0) = false := by rw [beq_eq_false_iff_ne]; exact h0
  have T0 := Lib.hid (NumIn.start w m e)
  have hz := tmod_zero m
  have HZ := Lib.hid hz
  have H0 := Lib.hid h0
  clear hz h0
  by_cases c1 : m < 1000000000000000
  · by_cases c2 : -1000000000000000 < m
    · rw [decide_eq_true c1, decide_eq_true c2] at HR
      have d1 : decide ((1000000000000000 : Int) ≤ m) = false := by simp; omega
      have d2 : decide (m ≤ -1000000000000000) = false := by simp; omega
      by_cases c3 : m.natAbs % 10 = 0
      · rw [decide_eq_false (fun h => h c3)] at HR
        have hr : Hid (r = false) := Lib.hid (by rw [HR.out]; simp)
        have t3 : (m.tmod 10 == 0) = true := by rw [beq_iff_eq]; exact HZ.out.2 c3
        have t4 : (m % 10 == 0) = true := by rw [beq_iff_eq]; omega
        clear HR c3 c1 c2
        by_cases hp : 0 ≤ m
        all_goals
          go_enter Tryd.func68, Tryd.ntmps68
          go_wp2_with fail
          go_ret
          exact ⟨ret_bool (by rw [hr.out]), HB.out⟩
      · rw [decide_eq_true c3] at HR
        have t3 : (m.tmod 10 == 0) = false := by rw [beq_eq_false_iff_ne]; exact fun h => c3 (HZ.out.1 h)
        have t4 : (m % 10 == 0) = false := by rw [beq_eq_false_iff_ne]; omega
        clear c3 c1 c2
        by_cases c4 : -40 ≤ e
        · by_cases c5 : e ≤ 40
          · rw [decide_eq_true c4, decide_eq_true c5] at HR
            have hr : Hid (r = decide (((dl m.natAbs).length : Int) + e ≤ 40)) := Lib.hid (by rw [HR.out]; rfl)
            clear HR HZ
            have hfl := dec_field1
            have hw : IntKind.i64.wrap (((dl m.natAbs).length : Int) + e) = ((dl m.natAbs).length : Int) + e := IntWalk.i64_in _ (by omega)
            by_cases hp : 0 ≤ m
            all_goals
              go_enter Tryd.func68, Tryd.ntmps68
              go_wp2_with fail
              go_region_held3 (fun w' => w.heap.size < w'.heap.size ∧ w'.cell? ⟨w.heap.size, 0, none⟩ = some (.int .i64 m) ∧ w'.cell? ⟨w.heap.size, 1, none⟩ = some (.int .i64 e) ∧ Below w.heap.size w w')
                (first | exact T0.out | exact T0.out.drew | exact (NumIn.next T0.out.drew hb) | (go_split_ands; exact (NumIn.next (w := w) ⟨by assumption, by assumption, by assumption, by assumption⟩ hb)))
                ((go_at_call 117; refine (HOf.out _).mono ?_; rintro x wx ⟨v, rfl, hown, hb⟩; obtain ⟨A, c, rfl, -, -⟩ := hown.slice; clear hown))
              all_goals go_wp2_with fail
              all_goals go_ret
              all_goals refine ⟨ret_bool (by rw [hr.out]), ?_⟩
              all_goals first | assumption | (go_split_ands; assumption)
          · rw [decide_eq_false c5] at HR
            have hr : Hid (r = false) := Lib.hid (by rw [HR.out]; simp)
            have d5 : decide ((40 : Int) < e) = true := by simp; omega
            clear HR
            by_cases hp : 0 ≤ m
            all_goals
              go_enter Tryd.func68, Tryd.ntmps68
              go_wp2_with fail
              go_ret
              exact ⟨ret_bool (by rw [hr.out]), HB.out⟩
        · rw [decide_eq_false c4] at HR
          have hr : Hid (r = false) := Lib.hid (by rw [HR.out]; simp)
          have d4 : decide (e < (-40 : Int)) = true := by simp; omega
          clear HR
          by_cases hp : 0 ≤ m
          all_goals
            go_enter Tryd.func68, Tryd.ntmps68
            go_wp2_with fail
            go_ret
            exact ⟨ret_bool (by rw [hr.out]), HB.out⟩
    · rw [decide_eq_false c2] at HR
      have hr : Hid (r = false) := Lib.hid (by rw [HR.out]; simp)
      have d1 : decide ((1000000000000000 : Int) ≤ m) = false := by simp; omega
      have d2 : decide (m ≤ -1000000000000000) = true := by simp; omega
      clear HR c1 c2
      go_enter Tryd.func68, Tryd.ntmps68
      go_wp2_with fail
      go_ret
      exact ⟨ret_bool (by rw [hr.out]), HB.out⟩
  · rw [decide_eq_false c1] at HR
    have hr : Hid (r = false) := Lib.hid (by rw [HR.out]; simp)
    have d1 : decide ((1000000000000000 : Int) ≤ m) = true := by simp; omega
    clear HR c1
    go_enter Tryd.func68, Tryd.ntmps68
    go_wp2_with fail
    go_ret
    exact ⟨ret_bool (by rw [hr.out]), HB.out⟩
end Go.Proofs.YtcgdeoldgnjdeaaDoor
