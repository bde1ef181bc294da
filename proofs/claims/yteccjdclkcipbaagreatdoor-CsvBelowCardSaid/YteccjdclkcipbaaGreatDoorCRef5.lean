/-
  counterpaneref32.Word, May, Write; counterpanelaw32.great: what they return.
-/
import Derived.Test.YteccjdclkcipbaaGreatDoorCRef3
namespace Go.Proofs.YteccjdclkcipbaaGreatDoor
open Go.RowKit

theorem run_neq_val6 (k m x : Int) (t : Bs) (tr : Bool) (f k2 m2 x2 : Int) (t2 : Bs) (tr2 : Bool) (f2 : Int) (w : World) :
    (binOp .neq 38 (.agg #[.int .i64 k, .int .i64 m, .int .i64 x, .string ⟨t.toArray⟩, .bool tr, .int .i64 f]) (.agg #[.int .i64 k2, .int .i64 m2, .int .i64 x2, .string ⟨t2.toArray⟩, .bool tr2, .int .i64 f2])).run Tryz.prog w = .ok (.bool (!vSame ⟨k, m, x, t, tr, f⟩ ⟨k2, m2, x2, t2, tr2, f2⟩)) w := by
  have h := run_eql_val6 k m x t tr f k2 m2 x2 t2 tr2 f2 w
  generalize vSame ⟨k, m, x, t, tr, f⟩ ⟨k2, m2, x2, t2, tr2, f2⟩ = r at *
  simp only [binOp] at h ⊢
  rw [Sem.run_bind] at h ⊢
  generalize Sem.run Tryz.prog (Op.equal 38 _ _) w = R at *
  cases R with
  | ok b w' =>
    simp at h ⊢
    obtain ⟨rfl, rfl⟩ := h
    exact ⟨rfl, rfl⟩
  | halt x w' => simp at h
theorem cWord_text (t : Bs) : cWord ⟨2, 0, 0, t, false, 0⟩ = if (!vSame (vRead t) ⟨2, 0, 0, t, false, 0⟩ || atIs t 0 39) = true then 39 :: t else t := by
  unfold cWord cQuote
  rw [if_pos rfl]
  dsimp only
  cases atIs t 0 39 <;> cases vSame (vRead t) ⟨2, 0, 0, t, false, 0⟩ <;> rfl
set_option maxRecDepth 100000 in
set_option maxHeartbeats 6400000 in
theorem rword32_text (t : Bs) (w : World) (hl : t.length ≤ 1000) :
    Calls Tryz.prog 21 #[valV ⟨2, 0, 0, t, false, 0⟩] w fun e w' => e = .returned (.string ⟨(cWord ⟨2, 0, 0, t, false, 0⟩).toArray⟩) ∧ Below w.heap.size w w' := by
  have hO := Lib.hid (cWord_text t)
  have CR := Lib.hid (fun W => rread_any t W (by omega))
  have T0 := Lib.hid (ValIn.start w ⟨2, 0, 0, t, false, 0⟩)
  have hN := run_neq_val6
  have hne : Hid (vSame (vRead t) ⟨2, 0, 0, t, false, 0⟩ = true → 0 < t.length) := Lib.hid (fun h => by
    rcases t with _ | ⟨c, t⟩
    · revert h; decide +kernel
    · simp)
  generalize cWord ⟨2, 0, 0, t, false, 0⟩ = out at *
  obtain ⟨x, hx⟩ : ∃ x, vRead t = x := ⟨_, rfl⟩
  rw [hx] at CR hO hne
  clear hx
  obtain ⟨xk, xm, xe, xt, xtr, xf⟩ := x
  simp only [valV, valC] at CR T0
  cases hs : vSame ⟨xk, xm, xe, xt, xtr, xf⟩ ⟨2, 0, 0, t, false, 0⟩
  · rw [hs] at hO
    go_enter Tryz.func21, Tryz.ntmps21
    go_wp2_with fail
    have T1 := T0.out.drew
    obtain ⟨g0, g1, g2, g3, g4, g5, g6, g7⟩ := id T1
    dsimp only at g1 g2 g3 g4 g5 g6
    first
      | (go_region_law (have _ := T1; go_simp; go_at_call 36; refine (CR.out _).mono ?_; rintro e w1 ⟨rfl, hb⟩; have T2 := ValIn.next T1 hb; clear hb T1 g0 g1 g2 g3 g4 g5 g6 g7; obtain ⟨g0, g1, g2, g3, g4, g5, g6, g7⟩ := id T2))
      | fail
    all_goals go_wp2_with fail
    all_goals go_ret
    all_goals exact ⟨by rw [hO.out]; rfl, g7⟩
  · rw [hs] at hO
    have hp := hne.out hs
    have e39 := at_beq t 0 39 39 rfl hp
    cases h39 : atIs t 0 39
    · rw [h39] at hO e39
      clear h39
      go_enter Tryz.func21, Tryz.ntmps21
      go_wp2_with fail
      go_region_held3 (fun w' => w.heap.size < w'.heap.size ∧ w'.cell? ⟨w.heap.size, 0, none⟩ = some (.int .i64 2) ∧ w'.cell? ⟨w.heap.size, 1, none⟩ = some (.int .i64 0) ∧ w'.cell? ⟨w.heap.size, 2, none⟩ = some (.int .i64 0) ∧ w'.cell? ⟨w.heap.size, 3, none⟩ = some (.string ⟨t.toArray⟩) ∧ w'.cell? ⟨w.heap.size, 4, none⟩ = some (.bool false) ∧ w'.cell? ⟨w.heap.size, 5, none⟩ = some (.int .i64 0) ∧ Below w.heap.size w w')
        (first | exact T0.out | exact T0.out.drew | exact (ValIn.next T0.out.drew hb) | (go_split_ands; exact (ValIn.next (w := w) (a := ⟨2, 0, 0, t, false, 0⟩) ⟨by assumption, by assumption, by assumption, by assumption, by assumption, by assumption, by assumption, by assumption⟩ hb)))
        ((go_at_call 36; (with_reducible refine (CR.out _).mono ?_); rintro e wx ⟨rfl, hb⟩))
      all_goals go_wp2_with fail
      all_goals go_ret
      all_goals refine ⟨by rw [hO.out]; rfl, ?_⟩
      all_goals first | assumption | (go_split_ands; assumption)
    · rw [h39] at hO e39
      clear h39
      go_enter Tryz.func21, Tryz.ntmps21
      go_wp2_with fail
      go_region_held3 (fun w' => w.heap.size < w'.heap.size ∧ w'.cell? ⟨w.heap.size, 0, none⟩ = some (.int .i64 2) ∧ w'.cell? ⟨w.heap.size, 1, none⟩ = some (.int .i64 0) ∧ w'.cell? ⟨w.heap.size, 2, none⟩ = some (.int .i64 0) ∧ w'.cell? ⟨w.heap.size, 3, none⟩ = some (.string ⟨t.toArray⟩) ∧ w'.cell? ⟨w.heap.size, 4, none⟩ = some (.bool false) ∧ w'.cell? ⟨w.heap.size, 5, none⟩ = some (.int .i64 0) ∧ Below w.heap.size w w')
        (first | exact T0.out | exact T0.out.drew | exact (ValIn.next T0.out.drew hb) | (go_split_ands; exact (ValIn.next (w := w) (a := ⟨2, 0, 0, t, false, 0⟩) ⟨by assumption, by assumption, by assumption, by assumption, by assumption, by assumption, by assumption, by assumption⟩ hb)))
        ((go_at_call 36; (with_reducible refine (CR.out _).mono ?_); rintro e wx ⟨rfl, hb⟩))
      all_goals go_wp2_with fail
      all_goals go_ret
      all_goals refine ⟨by rw [hO.out]; rfl, ?_⟩
      all_goals first | assumption | (go_split_ands; assumption)
set_option maxRecDepth 100000 in
set_option maxHeartbeats 3200000 in
theorem rword32_any (v : Val) (w : World) (hR : vRight v = true) :
    Calls Tryz.prog 21 #[valV v] w fun e w' => e = .returned (.string ⟨(cWord v).toArray⟩) ∧ Below w.heap.size w w' := by
  by_cases h2 : v.kind = 2
  · rcases right_forms v hR with rfl | ⟨m, e, rfl, hp⟩ | ⟨t, rfl, ht⟩ | ⟨b, rfl⟩ | ⟨f, rfl, h1, h9⟩
    · cases h2
    · cases h2
    · exact rword32_text t w (by omega)
    · cases h2
    · cases h2
  · have CS := Lib.hid (fun W => rShow_right v W hR)
    have hO : cWord v = vShow v := by unfold cWord; rw [if_neg h2]
    rw [hO]
    generalize vShow v = out at *
    have T0 := Lib.hid (ValIn.start w v)
    obtain ⟨k, m, x, t, tr, f⟩ := v
    dsimp only at h2
    have b2 : (k == 2) = false := by rw [beq_eq_false_iff_ne]; exact h2
    simp only [valV, valC] at CS T0
    clear hO hR h2
    go_enter Tryz.func21, Tryz.ntmps21
    go_wp2_with fail
    obtain ⟨g0, g1, g2, g3, g4, g5, g6, g7⟩ := id T0.out
    refine (CS.out _).mono ?_
    rintro e w1 ⟨rfl, hb⟩
    have HB := Lib.hid (g7.trans (hb.mono g7.size))
    clear hb g0 g1 g2 g3 g4 g5 g6 g7
    go_wp2_with fail
    go_ret
    exact ⟨rfl, HB.out⟩
/-- cell by cell, what stands before cell k -/
def rW (vs : List Val) (C : Nat) : Nat → Bs
  | 0 => []
  | k + 1 => rW vs C k ++ cellW vs k ++ [if (k + 1) % C = 0 then 10 else 44]
theorem rW_in (vs : List Val) (C i : Nat) (hC : 1 ≤ C) (h0 : rW vs C (i * C) = cLns vs C i) : ∀ j, j < C → rW vs C (i * C + j) = cLns vs C i ++ (cCells vs (i * C) j ++ if 0 < j then [44] else [])
  | 0, _ => by rw [Nat.add_zero, h0]; simp [cCells]
  | j + 1, hj => by
    have ih := rW_in vs C i hC h0 j (by omega)
    have hm : (i * C + j + 1) % C = j + 1 := by rw [Nat.add_assoc, Nat.mul_comm, Nat.mul_add_mod]; exact Nat.mod_eq_of_lt hj
    rw [← Nat.add_assoc, rW, ih, hm, if_neg (show ¬ j + 1 = 0 by omega), cCells, if_pos (show 0 < j + 1 by omega)]
    simp only [List.append_assoc]
theorem rW_rows (vs : List Val) (C : Nat) (hC : 1 ≤ C) : ∀ i, rW vs C (i * C) = cLns vs C i
  | 0 => by rw [Nat.zero_mul]; rfl
  | i + 1 => by
    have ih := rW_rows vs C hC i
    have h := rW_in vs C i hC ih (C - 1) (by omega)
    have e : (i + 1) * C = i * C + (C - 1) + 1 := by rw [Nat.add_mul, Nat.one_mul]; omega
    have e2 : i * C + (C - 1) + 1 = C * (i + 1) := by rw [← e, Nat.mul_comm]
    rw [e, rW, h, if_pos (show (i * C + (C - 1) + 1) % C = 0 by rw [e2]; exact Nat.mul_mod_right C (i + 1)), cLns]
    obtain ⟨D, hD⟩ : ∃ D, C = D + 1 := ⟨C - 1, by omega⟩
    subst hD
    rw [Nat.add_sub_cancel, cCells]
    simp only [List.append_assoc]
theorem rW_len (vs : List Val) (C : Nat) (h : ∀ v ∈ vs, vRight v = true) : ∀ k, (rW vs C k).length ≤ 515 * k
  | 0 => Nat.zero_le _
  | k + 1 => by
    have ih := rW_len vs C h k
    have hc : (cellW vs k).length ≤ 514 := by
      unfold cellW
      cases he : vs[k]? with
      | none => simp
      | some v =>
        have hm : v ∈ vs := by
          obtain ⟨hk, e⟩ := List.getElem?_eq_some_iff.1 he
          exact e ▸ List.getElem_mem hk
        exact oLen_le v (h v hm)
    rw [rW, List.length_append, List.length_append, List.length_singleton]
    omega
def GreatPost (vs : List Val) (w : World) (e : Ending) (w' : World) : Prop := (∃ b : Bool, e = .returned (.bool b) ∧ (b = false → vs.length ≤ 200 ∧ ∀ v ∈ vs, v.text.length ≤ 300)) ∧ Below w.heap.size w w'
set_option maxRecDepth 100000 in
set_option maxHeartbeats 6400000 in
theorem great32_any (r c : Int) (A : Option Addr) (cap : Nat) (vs : List Val) (w : World) (hv : VSl w A vs) :
    Calls Tryz.prog 7 #[.agg #[.int .i64 r, .int .i64 c, .slice A vs.length cap]] w (GreatPost vs w) := by
  have HB0 : Hid (Below w.heap.size w (w.alloc (.cells #[.int .i64 r, .int .i64 c, .slice A vs.length cap] 24))) := Lib.hid ((Below.refl _ w).alloc (Nat.le_refl _) _)
  have HL0 : Hid (Lies (w.alloc (.cells #[.int .i64 r, .int .i64 c, .slice A vs.length cap] 24)) w.heap.size 24 #[.int .i64 r, .int .i64 c, .slice A vs.length cap]) := Lib.hid (Lies.new w _ _)
  have HV0 := Lib.hid (hv.next HB0.out)
  clear hv
  go_enter Tryz.func7, Tryz.ntmps7
  go_wp2_with fail
  generalize w.alloc (.cells #[.int .i64 r, .int .i64 c, .slice A vs.length cap] 24) = W0 at *
  go_loopw [3] (fun v wr => ∃ j : Nat, v = .int .i64 (j : Int) ∧ j ≤ vs.length ∧ j ≤ 201 ∧ Hid (∀ v ∈ vs.take j, v.text.length ≤ 300) ∧ wr = W0) (fun v _ => 202 - (intOf v).toNat)
  case atStart => exact ⟨0, rfl, Nat.zero_le _, Nat.zero_le _, Lib.hid (fun v h => by simp at h), rfl⟩
  case round =>
    obtain ⟨j, rfl, hj, hj2, hall, rfl⟩ := hrel
    have x2 := HL0.out.cell 2
    simp only [List.getElem?_toArray, List.getElem?_cons_zero, List.getElem?_cons_succ] at x2
    by_cases hlt : j < vs.length
    · by_cases h200 : j ≤ 200
      · obtain ⟨b, off, rfl, hvr⟩ := HV0.out (by omega)
        obtain ⟨y0, y1, y2, y3, y4, y5⟩ := hvr.2 j hlt
        have h200i : ((j : Int) ≤ 200) := by omega
        clear hvr y0 y1 y2 y4 y5
        by_cases h3 : 300 < vs[j].text.length
        · have h3i : (300 : Int) < (vs[j].text.length : Int) := by omega
          go_wp2_with fail
          go_ret
          exact ⟨⟨true, rfl, fun h => by cases h⟩, HB0.out⟩
        · have h3i : ¬ (300 : Int) < (vs[j].text.length : Int) := by omega
          have hall2 : Hid (∀ v ∈ vs.take (j + 1), v.text.length ≤ 300) := Lib.hid (fun v h => by
            rw [List.take_succ_eq_append_getElem hlt] at h
            rcases List.mem_append.1 h with h | h
            · exact hall.out v h
            · rw [List.mem_singleton.1 h]; omega)
          clear h3
          go_wp2_with fail
          go_roundw
          case rel => exact ⟨j + 1, by go_num, by omega, by omega, hall2, trivial⟩
          case measure => simp [intOf]; omega
      · have h200i : ¬ ((j : Int) ≤ 200) := by omega
        have hlen : (200 : Int) < (vs.length : Int) := by omega
        go_wp2_with fail
        go_ret
        exact ⟨⟨true, rfl, fun h => by cases h⟩, HB0.out⟩
    · obtain rfl : j = vs.length := by omega
      rw [List.take_length] at hall
      go_wp2_with fail
      go_ret
      refine ⟨⟨_, rfl, fun h => ⟨?_, hall.out⟩⟩, HB0.out⟩
      simp at h
      omega
theorem fits_no {r c : Int} (h : pFits r c = false) : r < 1 ∨ (1 ≤ r ∧ c < 1) ∨ (1 ≤ r ∧ 1 ≤ c ∧ 4096 < r) ∨ (1 ≤ r ∧ 1 ≤ c ∧ r ≤ 4096 ∧ 4096 < c) ∨ (1 ≤ r ∧ 1 ≤ c ∧ r ≤ 4096 ∧ c ≤ 4096 ∧ 4096 < r * c) := by
  by_cases h1 : r < 1
  · exact .inl h1
  by_cases h2 : c < 1
  · exact .inr (.inl ⟨by omega, h2⟩)
  by_cases h3 : 4096 < r
  · exact .inr (.inr (.inl ⟨by omega, by omega, h3⟩))
  by_cases h4 : 4096 < c
  · exact .inr (.inr (.inr (.inl ⟨by omega, by omega, by omega, h4⟩)))
  refine .inr (.inr (.inr (.inr ⟨by omega, by omega, by omega, by omega, ?_⟩)))
  obtain ⟨R, rfl⟩ : ∃ R : Nat, r = R := ⟨r.toNat, by omega⟩
  obtain ⟨C, rfl⟩ : ∃ C : Nat, c = C := ⟨c.toNat, by omega⟩
  rcases Nat.lt_or_ge 4096 (R * C) with h5 | h5
  · rw [← Int.natCast_mul]
    show ((4096 : Nat) : Int) < _
    exact Int.ofNat_lt.2 h5
  · rw [fits_of (by omega) (by omega) h5] at h
    cases h
set_option maxRecDepth 100000 in
set_option maxHeartbeats 6400000 in
theorem rmay32_any (r c : Int) (A : Option Addr) (cap : Nat) (vs : List Val) (w : World) (hr : -9223372036854775808 ≤ r ∧ r ≤ 9223372036854775807) (hv : VSl w A vs) (hs : ∀ v ∈ vs, v.sane) :
    Calls Tryz.prog 10 #[.agg #[.int .i64 r, .int .i64 c, .slice A vs.length cap]] w fun e w' => e = .returned (.bool (aRight r c vs)) ∧ Below w.heap.size w w' := by
  have hO : Hid (aRight r c vs = (pFits r c && (decide ((vs.length : Int) = r * c) && vs.all vRight))) := Lib.hid rfl
  generalize aRight r c vs = out at *
  have HB0 : Hid (Below w.heap.size w (w.alloc (.cells #[.int .i64 r, .int .i64 c, .slice A vs.length cap] 24))) := Lib.hid ((Below.refl _ w).alloc (Nat.le_refl _) _)
  have HL0 : Hid (Lies (w.alloc (.cells #[.int .i64 r, .int .i64 c, .slice A vs.length cap] 24)) w.heap.size 24 #[.int .i64 r, .int .i64 c, .slice A vs.length cap]) := Lib.hid (Lies.new w _ _)
  have HV0 := Lib.hid (hv.next HB0.out)
  have HS := Lib.hid hs
  clear hv hs
  cases hf : pFits r c
  · rw [hf] at hO
    rcases fits_no hf with h | ⟨h1, h2⟩ | ⟨h1, h2, h3⟩ | ⟨h1, h2, h3, h4⟩ | ⟨h1, h2, h3, h4, h5⟩
    · clear hf
      go_enter Tryz.func10, Tryz.ntmps10
      go_wp2_with fail
      go_ret
      exact ⟨by rw [hO.out]; rfl, HB0.out⟩
    · clear hf
      have n1 : ¬ r < 1 := by omega
      go_enter Tryz.func10, Tryz.ntmps10
      go_wp2_with fail
      go_ret
      exact ⟨by rw [hO.out]; rfl, HB0.out⟩
    · clear hf
      have n1 : ¬ r < 1 := by omega
      have n2 : ¬ c < 1 := by omega
      go_enter Tryz.func10, Tryz.ntmps10
      go_wp2_with fail
      go_ret
      exact ⟨by rw [hO.out]; rfl, HB0.out⟩
    · clear hf
      have n1 : ¬ r < 1 := by omega
      have n2 : ¬ c < 1 := by omega
      have n3 : ¬ 4096 < r := by omega
      go_enter Tryz.func10, Tryz.ntmps10
      go_wp2_with fail
      go_ret
      exact ⟨by rw [hO.out]; rfl, HB0.out⟩
    · clear hf
      obtain ⟨R, rfl⟩ : ∃ R : Nat, r = R := ⟨r.toNat, by omega⟩
      obtain ⟨C, rfl⟩ : ∃ C : Nat, c = C := ⟨c.toNat, by omega⟩
      have n1 : ¬ (R : Int) < 1 := by omega
      have n2 : ¬ (C : Int) < 1 := by omega
      have n3 : ¬ 4096 < (R : Int) := by omega
      have n4 : ¬ 4096 < (C : Int) := by omega
      have hM1 : R * C ≤ 4096 * 4096 := Nat.mul_le_mul (by omega) (by omega)
      obtain ⟨M, hM⟩ : ∃ M : Nat, R * C = M := ⟨_, rfl⟩
      have hm : (R : Int) * (C : Int) = (M : Int) := by rw [← hM]; simp
      rw [hm] at h5
      rw [hM] at hM1
      clear hM
      go_enter Tryz.func10, Tryz.ntmps10
      go_wp2_with fail
      go_ret
      exact ⟨by rw [hO.out]; rfl, HB0.out⟩
  · obtain ⟨R, C, rfl, rfl, hR1, hC1, hR2, hC2, hRC⟩ := fits_nat hf
    rw [hf, Bool.true_and] at hO
    obtain ⟨M, hM⟩ : ∃ M : Nat, R * C = M := ⟨_, rfl⟩
    have hm : (R : Int) * (C : Int) = (M : Int) := by rw [← hM]; simp
    rw [hm] at hO
    rw [hM] at hRC
    have n1 : ¬ (R : Int) < 1 := by omega
    have n2 : ¬ (C : Int) < 1 := by omega
    have n3 : ¬ 4096 < (R : Int) := by omega
    have n4 : ¬ 4096 < (C : Int) := by omega
    have n5 : ¬ 4096 < (M : Int) := by omega
    clear hf hM
    by_cases hne : vs.length = M
    · have hb : (((vs.length : Nat) : Int) != (M : Int)) = false := by rw [bne_eq_false_iff_eq]; omega
      rw [decide_eq_true (by omega), Bool.true_and] at hO
      have HA0 : Hid (∀ v ∈ vs.take 0, vRight v = true) := Lib.hid (fun v h => by simp at h)
      have hMl : vs.length ≤ 4096 := by omega
      have HN := Lib.hid hne
      have x0 := HL0.out.cell 0
      have x1 := HL0.out.cell 1
      have x2 := HL0.out.cell 2
      simp only [List.getElem?_toArray, List.getElem?_cons_zero, List.getElem?_cons_succ] at x0 x1 x2
      clear hne
      go_enter Tryz.func10, Tryz.ntmps10
      go_wp2_with fail
      go_loopw [3] (fun v wr => ∃ j : Nat, v = .int .i64 (j : Int) ∧ j ≤ vs.length ∧ Hid (∀ v ∈ vs.take j, vRight v = true) ∧ Hid (Below w.heap.size w wr) ∧ Hid (Below (w.alloc (.cells #[.int .i64 (R : Int), .int .i64 (C : Int), .slice A vs.length cap] 24)).heap.size (w.alloc (.cells #[.int .i64 (R : Int), .int .i64 (C : Int), .slice A vs.length cap] 24)) wr)) (fun v _ => vs.length - (intOf v).toNat)
      case atStart => exact ⟨0, rfl, Nat.zero_le _, HA0, HB0, Lib.hid (Below.refl _ _)⟩
      case round =>
        obtain ⟨j, rfl, hj, hall, hbel, hb2⟩ := hrel
        clear HA0 x0 x1 x2
        have HL := Lies.below HL0.out hb2.out
        have x2 := HL.cell 2
        simp only [List.getElem?_toArray, List.getElem?_cons_zero, List.getElem?_cons_succ] at x2
        by_cases hlt : j < vs.length
        · obtain ⟨b, off, rfl, hvr⟩ := HV0.out (by omega)
          obtain ⟨y0, y1, y2, y3, y4, y5⟩ := (hvr.next hb2.out).2 j hlt
          obtain ⟨s1, s2, s3⟩ := HS.out vs[j] (List.getElem_mem hlt)
          have CR := Lib.hid (fun W => rvRight_any vs[j] W s1 s2 (by unfold maxLen; omega))
          clear s1 s2 s3 hvr
          cases hrj : vRight vs[j]
          · rw [hrj] at CR
            have hr : Hid (vs.all vRight = false) := Lib.hid (by
              rw [Bool.eq_false_iff]
              intro h
              have := List.all_eq_true.1 h vs[j] (List.getElem_mem hlt)
              rw [hrj] at this; cases this)
            go_wp2_with fail
            refine (CR.out _).mono ?_
            rintro z w2 ⟨rfl, hbb⟩
            have HB2 := Lib.hid (hbel.out.trans (hbb.mono hbel.out.size))
            clear hbb
            go_wp2_with fail
            go_ret
            exact ⟨by rw [hO.out, hr.out]; rfl, HB2.out⟩
          · rw [hrj] at CR
            have hall2 : Hid (∀ v ∈ vs.take (j + 1), vRight v = true) := Lib.hid (fun v h => by
              rw [List.take_succ_eq_append_getElem hlt] at h
              rcases List.mem_append.1 h with h | h
              · exact hall.out v h
              · rw [List.mem_singleton.1 h]; exact hrj)
            clear hall
            go_wp2_with fail
            refine (CR.out _).mono ?_
            rintro z w2 ⟨rfl, hbb⟩
            have HB2 := Lib.hid (hbel.out.trans (hbb.mono hbel.out.size))
            have HB3 := Lib.hid (hb2.out.trans (hbb.mono hb2.out.size))
            clear hbb
            go_wp2_with fail
            go_roundw
            case rel => exact ⟨j + 1, by go_num, by omega, hall2, HB2, HB3⟩
            case measure => simp [intOf]; omega
        · have hr : Hid (vs.all vRight = true) := Lib.hid (by
            rw [List.all_eq_true]
            intro v hv
            exact hall.out v (by rw [List.take_of_length_le (by omega)]; exact hv))
          clear hall
          go_wp2_with fail
          go_ret
          exact ⟨by rw [hO.out, hr.out]; rfl, hbel.out⟩
    · have hb : (((vs.length : Nat) : Int) != (M : Int)) = true := by rw [bne_iff_ne]; omega
      rw [decide_eq_false (by omega)] at hO
      go_enter Tryz.func10, Tryz.ntmps10
      go_wp2_with fail
      go_ret
      exact ⟨by rw [hO.out]; rfl, HB0.out⟩
set_option maxRecDepth 100000 in
set_option maxHeartbeats 6400000 in
theorem rwrite32_any (r c : Int) (A : Option Addr) (cap : Nat) (vs : List Val) (w : World) (hr : -9223372036854775808 ≤ r ∧ r ≤ 9223372036854775807) (hv : VSl w A vs) (hs : ∀ v ∈ vs, v.sane) :
    Calls Tryz.prog 9 #[.agg #[.int .i64 r, .int .i64 c, .slice A vs.length cap]] w fun e w' => e = .returned (.string ⟨(cWrite r c vs).toArray⟩) ∧ Below w.heap.size w w' := by
  have hO : Hid (cWrite r c vs = if aRight r c vs = true then cLns vs c.toNat r.toNat else []) := Lib.hid rfl
  generalize cWrite r c vs = out at *
  obtain ⟨W0, hW0⟩ : ∃ W0, W0 = w.alloc (.cells #[.int .i64 r, .int .i64 c, .slice A vs.length cap] 24) := ⟨_, rfl⟩
  have HB0 : Hid (Below w.heap.size w W0) := Lib.hid (by rw [hW0]; exact (Below.refl _ w).alloc (Nat.le_refl _) _)
  have HL0 : Hid (Lies W0 w.heap.size 24 #[.int .i64 r, .int .i64 c, .slice A vs.length cap]) := Lib.hid (by rw [hW0]; exact Lies.new w _ _)
  have HV0 := Lib.hid (hv.next HB0.out)
  have CM := Lib.hid (rmay32_any r c A cap vs W0 hr HV0.out hs)
  have HW := Lib.hid hW0
  have x0 := HL0.out.cell 0
  have x1 := HL0.out.cell 1
  have x2 := HL0.out.cell 2
  simp only [List.getElem?_toArray, List.getElem?_cons_zero, List.getElem?_cons_succ] at x0 x1 x2
  clear hv hs hW0
  cases ha : aRight r c vs
  · rw [ha] at hO CM
    clear ha
    go_enter Tryz.func9, Tryz.ntmps9
    go_wp2_with fail
    rw [← HW.out]
    refine CM.out.mono ?_
    rintro e w1 ⟨rfl, hb⟩
    have HB1 := Lib.hid (HB0.out.trans (hb.mono HB0.out.size))
    clear hb
    go_wp2_with fail
    go_ret
    exact ⟨by rw [hO.out]; rfl, HB1.out⟩
  · rw [ha, if_pos rfl] at hO
    rw [ha] at CM
    obtain ⟨f1, e1, hvr⟩ := aRight_yes ha
    obtain ⟨R, C, rfl, rfl, hR1, hC1, hR2, hC2, hRC⟩ := fits_nat f1
    have hlen : vs.length = R * C := by rw [← Int.natCast_mul] at e1; exact_mod_cast e1
    simp only [Int.toNat_natCast] at hO
    rw [← rW_rows vs C hC1, ← hlen] at hO
    have hMl : vs.length ≤ 4096 := by omega
    have HR := Lib.hid hvr
    have hC0 : (C : Int) ≠ 0 := by omega
    clear f1 e1 hvr ha hlen hRC
    go_enter Tryz.func9, Tryz.ntmps9
    go_wp2_with fail
    rw [← HW.out]
    refine CM.out.mono ?_
    rintro e w1 ⟨rfl, hb⟩
    have HB1 := Lib.hid (HB0.out.trans (hb.mono HB0.out.size))
    have HBX := Lib.hid hb
    clear hb x0 x1 x2 CM
    go_wp2_with fail
    go_loopw [3, 4] (fun v3 v4 wr => ∃ k : Nat, v3 = .string ⟨(rW vs C k).toArray⟩ ∧ v4 = .int .i64 (k : Int) ∧ k ≤ vs.length ∧ Hid (Below W0.heap.size W0 wr)) (fun _ v4 _ => vs.length - (intOf v4).toNat)
    case atStart => exact ⟨0, rfl, rfl, Nat.zero_le _, HBX⟩
    case round =>
      obtain ⟨k, rfl, rfl, hk, hbr⟩ := hrel
      clear HBX
      have x1 := (HL0.out.next hbr.out).cell 1
      have x2 := (HL0.out.next hbr.out).cell 2
      simp only [List.getElem?_toArray, List.getElem?_cons_zero, List.getElem?_cons_succ] at x1 x2
      by_cases hlt : k < vs.length
      · obtain ⟨b, off, rfl, hva⟩ := HV0.out (by omega)
        obtain ⟨y0, y1, y2, y3, y4, y5⟩ := (hva.next hbr.out).2 k hlt
        have hrv := HR.out vs[k] (List.getElem_mem hlt)
        have CW := Lib.hid (fun W => rword32_any vs[k] W hrv)
        have h256 := cWord_256 vs[k] hrv
        have h514 := oLen_le vs[k] hrv
        unfold oLen at h514
        have hst : Hid (rW vs C (k + 1) = rW vs C k ++ cOut (cWord vs[k]) ++ [if (k + 1) % C = 0 then 10 else 44]) := Lib.hid (by
          rw [rW]
          unfold cellW
          rw [List.getElem?_eq_getElem hlt])
        have hrl := rW_len vs C HR.out k
        have CF := Lib.hid (fun W => rfield32_any (cWord vs[k]) W (by omega))
        have hrl2 : (rW vs C k).length ≤ 2200000 := by omega
        generalize hcw : cWord vs[k] = wd at *
        generalize cOut wd = od at *
        generalize hrk : rW vs C k = acc at *
        obtain ⟨m, hm⟩ : ∃ m, (k + 1) % C = m := ⟨_, rfl⟩
        rw [hm] at hst
        have hmod : Int.tmod ((k : Int) + 1) (C : Int) = (m : Int) := by
          rw [Int.tmod_eq_emod_of_nonneg (by omega), ← hm]
          simp
        obtain ⟨v, hve⟩ : ∃ v, vs[k] = v := ⟨_, rfl⟩
        rw [hve] at y0 y1 y2 y3 y4 y5 CW
        obtain ⟨vk, vm, ve, vt, vb, vf⟩ := v
        simp only [valV, valC] at CW
        dsimp only at y0 y1 y2 y3 y4 y5
        clear hrv hrl hm hva h256 hcw hve
        go_wp2_with fail
        refine (CW.out _).mono ?_
        rintro e w2 ⟨rfl, hb2⟩
        have HB2 := Lib.hid (hbr.out.trans (hb2.mono hbr.out.size))
        clear hb2 y0 y1 y2 y3 y4 y5 x1 x2 CW
        have x1 := (HL0.out.next HB2.out).cell 1
        simp only [List.getElem?_toArray, List.getElem?_cons_zero, List.getElem?_cons_succ] at x1
        go_wp2_with fail
        refine (CF.out _).mono ?_
        rintro e w3 ⟨rfl, hb3⟩
        have HB3 := Lib.hid (HB2.out.trans (hb3.mono HB2.out.size))
        clear hb3 x1 CF
        have x1 := (HL0.out.next HB3.out).cell 1
        simp only [List.getElem?_toArray, List.getElem?_cons_zero, List.getElem?_cons_succ] at x1
        by_cases h0 : m = 0
        · subst h0
          rw [if_pos rfl] at hst
          go_wp2_with fail
          exact ⟨⟨k + 1, by rw [hst.out, List.append_assoc], by simp, by omega, HB3⟩, by simp [intOf]; omega⟩
        · have b0 : ((m : Int) == 0) = false := by rw [beq_eq_false_iff_ne]; omega
          rw [if_neg h0] at hst
          go_wp2_with fail
          exact ⟨⟨k + 1, by rw [hst.out, List.append_assoc], by simp, by omega, HB3⟩, by simp [intOf]; omega⟩
      · obtain rfl : k = vs.length := by omega
        go_wp2_with fail
        go_ret
        exact ⟨by rw [hO.out]; rfl, HB0.out.trans (hbr.out.mono HB0.out.size)⟩
end Go.Proofs.YteccjdclkcipbaaGreatDoor
