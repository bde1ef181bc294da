/-
  value.Same, Right.
-/
import Derived.Test.YtpdaloohgfnbhaaGreatDoorVal7
import Derived.Test.YtpdaloohgfnbhaaGreatDoorRefB4
namespace Go.Proofs.YtpdaloohgfnbhaaGreatDoor
open Go.RowKit

/-- are two values the same, field by field? -/
def vSame (a b : Val) : Bool := (a.kind == b.kind) && (a.mant == b.mant) && (a.exp == b.exp) && (a.text == b.text) && (a.truth == b.truth) && (a.fault == b.fault)
theorem vSame_self (a : Val) : vSame a a = true := by simp [vSame]
theorem vSame_iff (a b : Val) : vSame a b = true ↔ a = b := by
  constructor
  · intro h
    obtain ⟨k, m, x, t, tr, f⟩ := a
    obtain ⟨k2, m2, x2, t2, tr2, f2⟩ := b
    simp [vSame] at h
    obtain ⟨⟨⟨⟨⟨rfl, rfl⟩, rfl⟩, rfl⟩, rfl⟩, rfl⟩ := h
    rfl
  · intro h; rw [h]; exact vSame_self b
set_option maxRecDepth 100000 in
/-- two values held against each other -/
theorem run_eql_value (a b : Val) (w : World) : (binOp .eql 35 (valV a) (valV b)).run Tryz.prog w = .ok (.bool (vSame a b)) w := by
  obtain ⟨k, m, x, t, tr, f⟩ := a
  obtain ⟨k2, m2, x2, t2, tr2, f2⟩ := b
  go_simp
  by_cases h0 : k = k2
  case neg => simp [vSame, h0]
  by_cases h1 : m = m2
  case neg => simp [vSame, h0, h1]
  by_cases h2 : x = x2
  case neg => simp [vSame, h0, h1, h2]
  by_cases h3 : t = t2
  case neg => simp [vSame, h0, h1, h2, h3]
  by_cases h4 : tr = tr2
  case neg => simp [vSame, h0, h1, h2, h3, h4]
  by_cases h5 : f = f2
  case neg => simp [vSame, h0, h1, h2, h3, h4, h5]
  simp [vSame, h0, h1, h2, h3, h4, h5]
theorem run_eql_val6 (k m x : Int) (t : Bs) (tr : Bool) (f k2 m2 x2 : Int) (t2 : Bs) (tr2 : Bool) (f2 : Int) (w : World) :
    (binOp .eql 35 (.agg #[.int .i64 k, .int .i64 m, .int .i64 x, .string ⟨t.toArray⟩, .bool tr, .int .i64 f]) (.agg #[.int .i64 k2, .int .i64 m2, .int .i64 x2, .string ⟨t2.toArray⟩, .bool tr2, .int .i64 f2])).run Tryz.prog w = .ok (.bool (vSame ⟨k, m, x, t, tr, f⟩ ⟨k2, m2, x2, t2, tr2, f2⟩)) w :=
  run_eql_value ⟨k, m, x, t, tr, f⟩ ⟨k2, m2, x2, t2, tr2, f2⟩ w
/-- a value in a box of the call's own -/
def ValIn (w : World) (a : Val) (w' : World) : Prop := w.heap.size < w'.heap.size ∧ w'.cell? ⟨w.heap.size, 0, none⟩ = some (.int .i64 a.kind) ∧ w'.cell? ⟨w.heap.size, 1, none⟩ = some (.int .i64 a.mant) ∧ w'.cell? ⟨w.heap.size, 2, none⟩ = some (.int .i64 a.exp) ∧ w'.cell? ⟨w.heap.size, 3, none⟩ = some (.string ⟨a.text.toArray⟩) ∧ w'.cell? ⟨w.heap.size, 4, none⟩ = some (.bool a.truth) ∧ w'.cell? ⟨w.heap.size, 5, none⟩ = some (.int .i64 a.fault) ∧ Below w.heap.size w w'
theorem ValIn.start (w : World) (a : Val) : ValIn w a (w.alloc (.cells (valC a) 35)) := by
  have hL : Lies (w.alloc (.cells (valC a) 35)) w.heap.size 35 (valC a) := Lies.new _ _ _
  exact ⟨by simp, hL.cell 0, hL.cell 1, hL.cell 2, hL.cell 3, hL.cell 4, hL.cell 5, (Below.refl _ w).alloc (Nat.le_refl _) _⟩
theorem ValIn.next {w w' w'' : World} {a : Val} (h : ValIn w a w') (hb : Below w'.heap.size w' w'') : ValIn w a w'' := by
  obtain ⟨h0, h1, h2, h3, h4, h5, h6, h7⟩ := h
  have hs := hb.size
  have k0 : ∀ i, w''.cell? ⟨w.heap.size, i, none⟩ = w'.cell? ⟨w.heap.size, i, none⟩ := fun i => hb.cell (p := ⟨_, _, none⟩) (by show w.heap.size < _; omega)
  exact ⟨by omega, (k0 0).trans h1, (k0 1).trans h2, (k0 2).trans h3, (k0 3).trans h4, (k0 4).trans h5, (k0 5).trans h6, h7.trans (hb.mono h7.size)⟩
theorem ValIn.drew {w w' : World} {a : Val} (h : ValIn w a w') : ValIn w a w'.drew := h.next (Below.refl _ _).drew
theorem vRight_blank (v : Val) (h : v.kind = 0) : vRight v = vSame v ⟨0, 0, 0, [], false, 0⟩ := by
  obtain ⟨k, m, x, t, tr, f⟩ := v
  dsimp only at h
  subst h
  rw [Bool.eq_iff_iff]
  simp [vRight, vSame]
theorem vRight_num (v : Val) (h : v.kind = 1) : vRight v = (pRight v.mant v.exp && vSame v (vNumber v.mant v.exp)) := by
  obtain ⟨k, m, x, t, tr, f⟩ := v
  dsimp only at h
  subst h
  rw [Bool.eq_iff_iff]
  simp [vRight, vSame, vNumber]
  constructor
  · rintro ⟨⟨⟨rfl, rfl⟩, rfl⟩, h⟩; simp [h]
  · rintro ⟨h, ⟨rfl, rfl⟩, rfl⟩; simp [h]
theorem vRight_text (v : Val) (h : v.kind = 2) : vRight v = vSame v (vText v.text) := by
  obtain ⟨k, m, x, t, tr, f⟩ := v
  dsimp only at h
  subst h
  unfold vText
  by_cases hl : 255 < t.length
  · rw [if_pos hl]
    have : ¬ t.length ≤ 255 := by omega
    simp [vRight, vSame, vBad, this]
  · rw [if_neg hl]
    have : t.length ≤ 255 := by omega
    rw [Bool.eq_iff_iff]
    simp [vRight, vSame, this]
theorem vRight_truth (v : Val) (h : v.kind = 3) : vRight v = vSame v (vTruth v.truth) := by
  obtain ⟨k, m, x, t, tr, f⟩ := v
  dsimp only at h
  subst h
  rw [Bool.eq_iff_iff]
  simp [vRight, vSame, vTruth]
theorem vRight_fault (v : Val) (h : v.kind = 4) : vRight v = vSame v (vBad v.fault) := by
  obtain ⟨k, m, x, t, tr, f⟩ := v
  dsimp only at h
  subst h
  unfold vBad
  by_cases hf : f < 1 ∨ 9 < f
  · rw [if_pos hf]
    rcases hf with h | h
    · have h1 : ¬ 1 ≤ f := by omega
      have h2 : ¬ f = 9 := by omega
      simp [vRight, vSame, h1, h2]
    · have h1 : ¬ f ≤ 9 := by omega
      have h2 : ¬ f = 9 := by omega
      simp [vRight, vSame, h1, h2]
  · rw [if_neg hf]
    have h1 : 1 ≤ f := by omega
    have h2 : f ≤ 9 := by omega
    rw [Bool.eq_iff_iff]
    simp [vRight, vSame, h1, h2]
theorem vRight_other (v : Val) (h0 : v.kind ≠ 0) (h1 : v.kind ≠ 1) (h2 : v.kind ≠ 2) (h3 : v.kind ≠ 3) (h4 : v.kind ≠ 4) : vRight v = false := by
  simp [vRight, h0, h1, h2, h3, h4]
set_option maxRecDepth 100000 in
set_option maxHeartbeats 6400000 in
theorem vvRight_any (a : Val) (w : World) (h1 : -9223372036854775808 ≤ a.mant) (h2 : a.mant ≤ 9223372036854775807) (hl : a.text.length ≤ 1000000) :
    Calls Tryz.prog 51 #[valV a] w fun x w' => x = .returned (.bool (vRight a)) ∧ Below w.heap.size w w' := by
  have T0 := Lib.hid (ValIn.start w a)
  have HB := Lib.hid T0.out.2.2.2.2.2.2.2
  have HR := Lib.hid (fun W => right_any a.mant a.exp W h1 h2)
  have HO := Lib.hid (fun W => of_any a.mant a.exp W)
  have HTx := Lib.hid (fun W => text_any a.text W hl)
  have HTr := Lib.hid (fun W => truth_any a.truth W)
  have HBd := Lib.hid (fun W => bad_any a.fault W)
  have P0 := Lib.hid (vRight_blank a)
  have P1 := Lib.hid (vRight_num a)
  have P2 := Lib.hid (vRight_text a)
  have P3 := Lib.hid (vRight_truth a)
  have P4 := Lib.hid (vRight_fault a)
  have P5 := Lib.hid (vRight_other a)
  have hE := run_eql_val6
  generalize vRight a = r at *
  clear h1 h2 hl
  obtain ⟨k, m, x, t, tr, f⟩ := a
  dsimp only at P0 P1 P2 P3 P4 P5 HR HO HTx HTr HBd
  by_cases k0 : k = 0
  · have hr := Lib.hid (P0.out k0)
    subst k0
    go_enter Tryz.func51, Tryz.ntmps51
    go_wp2_with fail
    go_ret
    exact ⟨ret_bool (by rw [hr.out]), HB.out⟩
  have b0 : (k == 0) = false := by rw [beq_eq_false_iff_ne]; exact k0
  by_cases k1 : k = 1
  · have hr := Lib.hid (P1.out k1)
    subst k1
    clear k0 b0
    cases hp : pRight m x
    · rw [hp] at HR hr
      clear hp
      go_enter Tryz.func51, Tryz.ntmps51
      go_wp2_with fail
      have T1 := T0.out.drew
      obtain ⟨g0, g1, g2, g3, g4, g5, g6, g7⟩ := id T1
      dsimp only at g1 g2 g3 g4 g5 g6
      first
        | (go_region_law (have _ := T1; go_simp; go_at_call 82; refine (HR.out _).mono ?_; rintro e w1 ⟨rfl, hb⟩; have T2 := ValIn.next T1 hb; clear hb T1 g0 g1 g2 g3 g4 g5 g6 g7; obtain ⟨g0, g1, g2, g3, g4, g5, g6, g7⟩ := id T2))
        | fail
      all_goals go_wp2_with fail
      all_goals go_ret
      all_goals exact ⟨ret_bool (by rw [hr.out]; rfl), g7⟩
    · rw [hp] at HR hr
      clear hp
      go_enter Tryz.func51, Tryz.ntmps51
      go_wp2_with fail
      go_region_held3 (fun w' => w.heap.size < w'.heap.size ∧ w'.cell? ⟨w.heap.size, 0, none⟩ = some (.int .i64 1) ∧ w'.cell? ⟨w.heap.size, 1, none⟩ = some (.int .i64 m) ∧ w'.cell? ⟨w.heap.size, 2, none⟩ = some (.int .i64 x) ∧ w'.cell? ⟨w.heap.size, 3, none⟩ = some (.string ⟨t.toArray⟩) ∧ w'.cell? ⟨w.heap.size, 4, none⟩ = some (.bool tr) ∧ w'.cell? ⟨w.heap.size, 5, none⟩ = some (.int .i64 f) ∧ Below w.heap.size w w')
        (first | exact T0.out | exact T0.out.drew | exact (ValIn.next T0.out.drew hb) | (go_split_ands; exact (ValIn.next (w := w) (a := ⟨1, m, x, t, tr, f⟩) ⟨by assumption, by assumption, by assumption, by assumption, by assumption, by assumption, by assumption, by assumption⟩ hb)))
        (first | (go_at_call 82; refine (HR.out _).mono ?_; rintro e wx ⟨rfl, hb⟩) | (go_at_call 78; refine (HO.out _).mono ?_; rintro e wx ⟨rfl, hb⟩; unfold vNumber))
      all_goals go_wp2_with fail
      all_goals go_ret
      all_goals refine ⟨ret_bool (by rw [hr.out] <;> rfl), ?_⟩
      all_goals first | assumption | (go_split_ands; assumption)
  have b1 : (k == 1) = false := by rw [beq_eq_false_iff_ne]; exact k1
  by_cases k2 : k = 2
  · have hr := Lib.hid (P2.out k2)
    subst k2
    clear k0 b0 k1 b1
    generalize vText t = q at *
    obtain ⟨qk, qm, qx, qt, qtr, qf⟩ := q
    go_enter Tryz.func51, Tryz.ntmps51
    go_wp2_with fail
    go_region_held3 (fun w' => w.heap.size < w'.heap.size ∧ w'.cell? ⟨w.heap.size, 0, none⟩ = some (.int .i64 2) ∧ w'.cell? ⟨w.heap.size, 1, none⟩ = some (.int .i64 m) ∧ w'.cell? ⟨w.heap.size, 2, none⟩ = some (.int .i64 x) ∧ w'.cell? ⟨w.heap.size, 3, none⟩ = some (.string ⟨t.toArray⟩) ∧ w'.cell? ⟨w.heap.size, 4, none⟩ = some (.bool tr) ∧ w'.cell? ⟨w.heap.size, 5, none⟩ = some (.int .i64 f) ∧ Below w.heap.size w w')
      (first | exact T0.out | exact T0.out.drew | exact (ValIn.next T0.out.drew hb) | (go_split_ands; exact (ValIn.next (w := w) (a := ⟨2, m, x, t, tr, f⟩) ⟨by assumption, by assumption, by assumption, by assumption, by assumption, by assumption, by assumption, by assumption⟩ hb)))
      ((go_at_call 65; refine (HTx.out _).mono ?_; rintro e wx ⟨rfl, hb⟩))
    all_goals go_wp2_with fail
    all_goals go_ret
    all_goals refine ⟨ret_bool (by rw [hr.out] <;> rfl), ?_⟩
    all_goals first | assumption | (go_split_ands; assumption)
  have b2 : (k == 2) = false := by rw [beq_eq_false_iff_ne]; exact k2
  by_cases k3 : k = 3
  · have hr := Lib.hid (P3.out k3)
    subst k3
    clear k0 b0 k1 b1 k2 b2
    go_enter Tryz.func51, Tryz.ntmps51
    go_wp2_with fail
    go_region_held3 (fun w' => w.heap.size < w'.heap.size ∧ w'.cell? ⟨w.heap.size, 0, none⟩ = some (.int .i64 3) ∧ w'.cell? ⟨w.heap.size, 1, none⟩ = some (.int .i64 m) ∧ w'.cell? ⟨w.heap.size, 2, none⟩ = some (.int .i64 x) ∧ w'.cell? ⟨w.heap.size, 3, none⟩ = some (.string ⟨t.toArray⟩) ∧ w'.cell? ⟨w.heap.size, 4, none⟩ = some (.bool tr) ∧ w'.cell? ⟨w.heap.size, 5, none⟩ = some (.int .i64 f) ∧ Below w.heap.size w w')
      (first | exact T0.out | exact T0.out.drew | exact (ValIn.next T0.out.drew hb) | (go_split_ands; exact (ValIn.next (w := w) (a := ⟨3, m, x, t, tr, f⟩) ⟨by assumption, by assumption, by assumption, by assumption, by assumption, by assumption, by assumption, by assumption⟩ hb)))
      ((go_at_call 77; refine (HTr.out _).mono ?_; rintro e wx ⟨rfl, hb⟩; unfold vTruth))
    all_goals go_wp2_with fail
    all_goals go_ret
    all_goals refine ⟨ret_bool (by rw [hr.out] <;> rfl), ?_⟩
    all_goals first | assumption | (go_split_ands; assumption)
  have b3 : (k == 3) = false := by rw [beq_eq_false_iff_ne]; exact k3
  by_cases k4 : k = 4
  · have hr := Lib.hid (P4.out k4)
    subst k4
    clear k0 b0 k1 b1 k2 b2 k3 b3
    generalize vBad f = q at *
    obtain ⟨qk, qm, qx, qt, qtr, qf⟩ := q
    go_enter Tryz.func51, Tryz.ntmps51
    go_wp2_with fail
    go_region_held3 (fun w' => w.heap.size < w'.heap.size ∧ w'.cell? ⟨w.heap.size, 0, none⟩ = some (.int .i64 4) ∧ w'.cell? ⟨w.heap.size, 1, none⟩ = some (.int .i64 m) ∧ w'.cell? ⟨w.heap.size, 2, none⟩ = some (.int .i64 x) ∧ w'.cell? ⟨w.heap.size, 3, none⟩ = some (.string ⟨t.toArray⟩) ∧ w'.cell? ⟨w.heap.size, 4, none⟩ = some (.bool tr) ∧ w'.cell? ⟨w.heap.size, 5, none⟩ = some (.int .i64 f) ∧ Below w.heap.size w w')
      (first | exact T0.out | exact T0.out.drew | exact (ValIn.next T0.out.drew hb) | (go_split_ands; exact (ValIn.next (w := w) (a := ⟨4, m, x, t, tr, f⟩) ⟨by assumption, by assumption, by assumption, by assumption, by assumption, by assumption, by assumption, by assumption⟩ hb)))
      ((go_at_call 49; refine (HBd.out _).mono ?_; rintro e wx ⟨rfl, hb⟩))
    all_goals go_wp2_with fail
    all_goals go_ret
    all_goals refine ⟨ret_bool (by rw [hr.out] <;> rfl), ?_⟩
    all_goals first | assumption | (go_split_ands; assumption)
  have b4 : (k == 4) = false := by rw [beq_eq_false_iff_ne]; exact k4
  have hr := Lib.hid (P5.out k0 k1 k2 k3 k4)
  clear k0 k1 k2 k3 k4
  go_enter Tryz.func51, Tryz.ntmps51
  go_wp2_with fail
  go_ret
  exact ⟨ret_bool (by rw [hr.out]), HB.out⟩
end Go.Proofs.YtpdaloohgfnbhaaGreatDoor
