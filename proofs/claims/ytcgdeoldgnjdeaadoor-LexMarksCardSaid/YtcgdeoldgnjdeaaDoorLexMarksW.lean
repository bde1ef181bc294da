/-
  counterpanelaw05.LexMarks: the walk.
-/
import Derived.Test.YtcgdeoldgnjdeaaDoorLexA
import Derived.Test.YtcgdeoldgnjdeaaDoorAddr3
namespace Go.Proofs.YtcgdeoldgnjdeaaDoor
open Go.RowKit

theorem run_eql_mark (r c : Int) (fr fc : Bool) (w : World) : (binOp .eql 59 (.agg #[.int .i64 r, .int .i64 c, .bool fr, .bool fc]) (.agg #[.int .i64 r, .int .i64 c, .bool fr, .bool fc])).run Tryd.prog w = .ok (.bool true) w := by
  go_simp

set_option maxRecDepth 100000 in
set_option maxHeartbeats 1600000 in
theorem lexMarks_not (r c : Int) (fr fc : Bool) (w : World) (ht : Tab w) (hN : r < 0 ∨ (0 ≤ r ∧ 9999998 < r) ∨ (0 ≤ r ∧ r ≤ 9999998 ∧ c < 0) ∨ (0 ≤ r ∧ r ≤ 9999998 ∧ 0 ≤ c ∧ 18277 < c)) :
    Calls Tryd.prog 13 #[markV r c fr fc] w fun e w' => e = .returned (.bool true) ∧ Below w.heap.size w w' := by
  have T0 := Lib.hid (MarkIn.start w r c fr fc)
  have HT0 : Hid (Tab (w.alloc (.cells #[.int .i64 r, .int .i64 c, .bool fr, .bool fc] 59))) := Lib.hid (ht.alloc _)
  clear ht
  have go : ∀ x1 x2 x3 x4 : Bool, decide (r < 0) = x1 → decide (9999998 < r) = x2 → decide (c < 0) = x3 → decide (18277 < c) = x4 → (x1 || x2 || x3 || x4) = true →
      Calls Tryd.prog 13 #[markV r c fr fc] w fun e w' => e = .returned (.bool true) ∧ Below w.heap.size w w' := by
    intro x1 x2 x3 x4 y1 y2 y3 y4 hx
    clear hN
    cases x1 <;> cases x2 <;> cases x3 <;> cases x4
    all_goals first | (exact absurd hx (by decide)) | skip
    all_goals
      clear hx
      go_enter Tryd.func13, Tryd.ntmps13
      go_wp2_with fail
      refine (awake_any _ HT0.out).mono ?_
      rintro x w1 ⟨rfl, hb⟩
      have T1 := Lib.hid (T0.out.next hb)
      have HT1 := Lib.hid (HT0.out.next hb)
      clear hb T0 HT0
      obtain ⟨g0, g1, g2, g3, g4, g5⟩ := T1.out
      go_wp2_with fail
      refine (awake_any _ HT1.out).mono ?_
      rintro x w2 ⟨rfl, hb⟩
      have HB3 := Lib.hid (T1.out.2.2.2.2.2.trans (hb.mono T1.out.2.2.2.2.2.size))
      clear hb
      go_wp2_with fail
      go_ret
      exact ⟨rfl, HB3.out⟩
  refine go _ _ _ _ rfl rfl rfl rfl ?_
  simp only [Bool.or_eq_true, decide_eq_true_eq]
  omega

set_option maxRecDepth 100000 in
set_option maxHeartbeats 1600000 in
theorem lexMarks_right (row col : Nat) (fr fc : Bool) (w : World) (ht : Tab w) (hp : PowTab w) (hr : row ≤ 9999998) (hc : col ≤ 18277) :
    Calls Tryd.prog 13 #[markV row col fr fc] w fun e w' => e = .returned (.bool true) ∧ Below w.heap.size w w' := by
  have T0 := Lib.hid (MarkIn.start w row col fr fc)
  have HT0 : Hid (Tab (w.alloc (.cells #[.int .i64 row, .int .i64 col, .bool fr, .bool fc] 59))) := Lib.hid (ht.alloc _)
  have HP0 : Hid (PowTab (w.alloc (.cells #[.int .i64 row, .int .i64 col, .bool fr, .bool fc] 59))) := Lib.hid (hp.next T0.out.2.2.2.2.2)
  have CT := Lib.hid (fun W h => adText_right row col fr fc W h hr hc)
  have hlen := mark_len row col fr fc hr hc
  have CL := Lib.hid (fun W (h : Tab W) => lex_ok (markB row col fr fc) _ W (by omega) h (mark_lex row col fr fc hr hc))
  have CP := Lib.hid (fun W => adParse_mark (lets (col + 1)) (Lib.decDigits (row + 1)) fr fc W (lets_pos _ (by omega)) (lets_len _ (by omega)) (lets_is _).1 (dec_pos _) (dec_short (row + 1) 6 (by omega)) (dec_dig _).1 (dec_head _ (by omega)))
  rw [(dec_dig (row + 1)).2, (lets_is (col + 1)).2, show (((row + 1 : Nat) : Int) - 1) = (row : Int) by omega, show (((col + 1 : Nat) : Int) - 1) = (col : Int) by omega] at CP
  have hm : dolB fc ++ (lets (col + 1) ++ (dolB fr ++ Lib.decDigits (row + 1))) = markB row col fr fc := rfl
  rw [hm] at CP
  clear hm
  have hE := run_eql_mark row col fr fc
  have d1 : decide ((row : Int) < 0) = false := decide_eq_false (by omega)
  have d2 : decide (9999998 < (row : Int)) = false := decide_eq_false (by omega)
  have d3 : decide ((col : Int) < 0) = false := decide_eq_false (by omega)
  have d4 : decide (18277 < (col : Int)) = false := decide_eq_false (by omega)
  generalize markB row col fr fc = s at *
  have hss : (s == s) = true := by simp
  clear ht hp hr hc hlen
  generalize (row : Int) = r at *
  generalize (col : Int) = c at *
  go_enter Tryd.func13, Tryd.ntmps13
  go_wp2_with fail
  refine (awake_any _ HT0.out).mono ?_
  rintro x w1 ⟨rfl, hb⟩
  have T1 := Lib.hid (T0.out.next hb)
  have HT1 := Lib.hid (HT0.out.next hb)
  have HP1 := Lib.hid (HP0.out.next hb)
  clear hb T0 HT0 HP0
  obtain ⟨g0, g1, g2, g3, g4, g5⟩ := T1.out
  go_wp2_with fail
  refine (CT.out _ HP1.out).mono ?_
  rintro x w2 ⟨rfl, hb⟩
  have T2 := Lib.hid (T1.out.next hb)
  have HT2 := Lib.hid (HT1.out.next hb)
  clear hb T1 HT1 HP1 g0 g1 g2 g3 g4 g5
  go_wp2_with fail
  refine (CL.out _ HT2.out).mono ?_
  rintro x w3 ⟨g, cap, rfl, hown, hb⟩
  have T3 := Lib.hid (T2.out.next hb)
  have k0 : w3.cell? ⟨g, 0, none⟩ = some (.int .i64 4) := (hown.cellAt 0 (by simp)).trans rfl
  have k1 : w3.cell? ⟨g, 1, none⟩ = some (.string ⟨s.toArray⟩) := (hown.cellAt 1 (by simp)).trans rfl
  clear hb T2 HT2 hown
  go_wp2_with fail
  refine (CP.out _).mono ?_
  rintro x w4 ⟨rfl, hb⟩
  have T4 := Lib.hid (T3.out.next hb)
  clear hb T3 k0 k1
  obtain ⟨g0, g1, g2, g3, g4, g5⟩ := T4.out
  have HB := Lib.hid g5
  clear g5
  go_wp2_with fail
  go_ret
  exact ⟨rfl, HB.out.alloc HB.out.size _⟩
theorem lexMarks_any (r c : Int) (fr fc : Bool) (w : World) (ht : Tab w) (hp : PowTab w) :
    Calls Tryd.prog 13 #[markV r c fr fc] w fun e w' => e = .returned (.bool true) ∧ Below w.heap.size w w' := by
  by_cases h : 0 ≤ r ∧ r ≤ 9999998 ∧ 0 ≤ c ∧ c ≤ 18277
  · obtain ⟨h1, h2, h3, h4⟩ := h
    obtain ⟨row, rfl⟩ := Int.eq_ofNat_of_zero_le h1
    obtain ⟨col, rfl⟩ := Int.eq_ofNat_of_zero_le h3
    exact lexMarks_right row col fr fc w ht hp (by omega) (by omega)
  · exact lexMarks_not r c fr fc w ht (by omega)
end Go.Proofs.YtcgdeoldgnjdeaaDoor
