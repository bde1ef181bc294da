/-
  addr.Text, Parse: what they return for a right mark.
-/
import Derived.Test.YtcgdeoldgnjdeaaDoorAddr2
import Derived.Test.YtcgdeoldgnjdeaaDoorNum11
namespace Go.Proofs.YtcgdeoldgnjdeaaDoor
open Go.RowKit

abbrev markV (row col : Int) (fr fc : Bool) : Value := .agg #[.int .i64 row, .int .i64 col, .bool fr, .bool fc]
/-- a mark in a box of the call's own -/
def MarkIn (w : World) (row col : Int) (fr fc : Bool) (w' : World) : Prop := w.heap.size < w'.heap.size ∧ w'.cell? ⟨w.heap.size, 0, none⟩ = some (.int .i64 row) ∧ w'.cell? ⟨w.heap.size, 1, none⟩ = some (.int .i64 col) ∧ w'.cell? ⟨w.heap.size, 2, none⟩ = some (.bool fr) ∧ w'.cell? ⟨w.heap.size, 3, none⟩ = some (.bool fc) ∧ Below w.heap.size w w'
theorem MarkIn.start (w : World) (row col : Int) (fr fc : Bool) : MarkIn w row col fr fc (w.alloc (.cells #[.int .i64 row, .int .i64 col, .bool fr, .bool fc] 59)) := ⟨by simp, by simp, by simp, by simp, by simp, (Below.refl _ w).alloc (Nat.le_refl _) _⟩
theorem MarkIn.next {w w' w'' : World} {row col : Int} {fr fc : Bool} (h : MarkIn w row col fr fc w') (hb : Below w'.heap.size w' w'') : MarkIn w row col fr fc w'' := by
  obtain ⟨h1, h2, h3, h4, h5, h6⟩ := h
  have hs := hb.size
  exact ⟨by omega, (hb.cell (p := ⟨_, _, none⟩) h1).trans h2, (hb.cell (p := ⟨_, _, none⟩) h1).trans h3, (hb.cell (p := ⟨_, _, none⟩) h1).trans h4, (hb.cell (p := ⟨_, _, none⟩) h1).trans h5, h6.trans (hb.mono h6.size)⟩
theorem MarkIn.drew {w w' : World} {row col : Int} {fr fc : Bool} (h : MarkIn w row col fr fc w') : MarkIn w row col fr fc w'.drew := h.next (Below.refl _ _).drew

set_option maxRecDepth 100000 in
set_option maxHeartbeats 1600000 in
theorem adText_right (row col : Nat) (fr fc : Bool) (w : World) (hp : PowTab w) (hr : row ≤ 9999998) (hc : col ≤ 18277) :
    Calls Tryd.prog 50 #[markV row col fr fc] w fun e w' => e = .returned (.string ⟨(markB row col fr fc).toArray⟩) ∧ Below w.heap.size w w' := by
  have T0 := Lib.hid (MarkIn.start w row col fr fc)
  have HP0 : Hid (PowTab (w.alloc (.cells #[.int .i64 row, .int .i64 col, .bool fr, .bool fc] 59))) := Lib.hid (hp.next T0.out.2.2.2.2.2)
  have hri : (row : Int) ≤ 9999998 := by omega
  have hci : (col : Int) ≤ 18277 := by omega
  have CL := Lib.hid (fun W => letters_any col W hc)
  have CD1 := Lib.hid (fun W => dollar_any fr W)
  have CD2 := Lib.hid (fun W => dollar_any fc W)
  have CI : Hid (∀ W, PowTab W → Calls Tryd.prog 93 #[.int .i64 ((row : Int) + 1)] W fun e w' => e = .returned (.string ⟨(Lib.decDigits (row + 1)).toArray⟩) ∧ Below W.heap.size W w') := Lib.hid (fun W h => itoa_any (row + 1) W h (by omega))
  have HE : Hid (dolB fc ++ (lets (col + 1) ++ (dolB fr ++ Lib.decDigits (row + 1))) = markB row col fr fc) := Lib.hid rfl
  have hwr : IntKind.i64.wrap ((row : Int) + 1) = (row : Int) + 1 := IntWalk.i64_in _ (by omega)
  have hd0 : ∀ b, (dolB b).length ≤ 1 := fun b => by cases b <;> decide
  have hd1 := hd0 fr
  have hd2 := hd0 fc
  have hd3 := lets_len (col + 1) (by omega)
  have hd4 := dec_short (row + 1) 6 (by omega)
  clear hd0
  generalize dolB fr = P at *
  generalize dolB fc = R at *
  generalize markB row col fr fc = M at *
  generalize lets (col + 1) = L at *
  generalize Lib.decDigits (row + 1) = D at *
  have k1 : ¬ 9223372036854775807 < R.length + L.length := by omega
  have k2 : ¬ 9223372036854775807 < R.length + L.length + P.length := by omega
  have k3 : ¬ 9223372036854775807 < R.length + (L.length + P.length) + D.length := by omega
  clear hp hr hc
  obtain ⟨g0, g1, g2, g3, g4, g5⟩ := T0.out
  go_enter Tryd.func50, Tryd.ntmps50
  go_wp2_with fail
  refine (adRight_yes (row : Int) (col : Int) _ (by omega) hri (by omega) hci).mono ?_
  rintro e w1 ⟨rfl, rfl⟩
  generalize hW : w.alloc (.cells #[.int .i64 (row : Int), .int .i64 (col : Int), .bool fr, .bool fc] 59) = W at *
  clear hW
  have HP9 : Hid (PowTab W.drew) := HP0
  go_wp2_with fail
  go_region_held3 (fun w' => w.heap.size < w'.heap.size ∧ w'.cell? ⟨w.heap.size, 0, none⟩ = some (.int .i64 (row : Int)) ∧ w'.cell? ⟨w.heap.size, 1, none⟩ = some (.int .i64 (col : Int)) ∧ w'.cell? ⟨w.heap.size, 2, none⟩ = some (.bool fr) ∧ w'.cell? ⟨w.heap.size, 3, none⟩ = some (.bool fc) ∧ Below w.heap.size w w')
    (first | exact T0.out | exact T0.out.drew | exact (MarkIn.next T0.out.drew hb) | (go_split_ands; exact (MarkIn.next (w := w) ⟨by assumption, by assumption, by assumption, by assumption, by assumption, by assumption⟩ hb)) | assumption)
    (first
      | (go_at_call 92; (with_reducible refine (CL.out _).mono ?_); rintro e wx ⟨rfl, hb⟩; have HPx := Lib.hid (HP9.out.next hb))
      | (go_at_call 93; (with_reducible refine (CI.out _ HPx.out).mono ?_); rintro e wx ⟨rfl, hb⟩)
      | (go_at_call 91; (with_reducible refine (CD1.out _).mono ?_); rintro e wx ⟨rfl, rfl⟩)
      | (go_at_call 91; (with_reducible refine (CD2.out _).mono ?_); rintro e wx ⟨rfl, rfl⟩))
  all_goals go_wp2_with fail
  all_goals go_ret
  all_goals refine ⟨congrArg (fun l : Bs => Ending.returned (.string ⟨l.toArray⟩)) HE.out, ?_⟩
  all_goals first | assumption | (go_split_ands; assumption)
theorem Lies.off {w : World} {g : Nat} {t : TypeId} {cs : Array Value} (h : Lies w g t cs) {b o : Nat} (hb : g ≠ b) (u : Value) : Lies (w.setCell ⟨b, o, none⟩ u) g t cs :=
  (Below.heap_setCell w ⟨b, o, none⟩ u g hb).trans h
theorem Lies.mark {w : World} {R : Nat} {a b c d : Value} (h : Lies w R 59 #[a, b, c, d]) : w.cell? ⟨R, 0, none⟩ = some a ∧ w.cell? ⟨R, 1, none⟩ = some b ∧ w.cell? ⟨R, 2, none⟩ = some c ∧ w.cell? ⟨R, 3, none⟩ = some d ∧ w.frozen? ⟨R, 0, none⟩ = false ∧ w.frozen? ⟨R, 1, none⟩ = false ∧ w.frozen? ⟨R, 2, none⟩ = false ∧ w.frozen? ⟨R, 3, none⟩ = false ∧ R < w.heap.size := ⟨h.cell 0, h.cell 1, h.cell 2, h.cell 3, h.frozen 0, h.frozen 1, h.frozen 2, h.frozen 3, h.lt⟩
theorem letter_bytes (c : UInt8) (h : isLetter c = true) : (((65 ≤ (c.toNat : Int)) ∧ (c.toNat : Int) ≤ 90) ∨ ((97 ≤ (c.toNat : Int)) ∧ (c.toNat : Int) ≤ 122)) := by
  unfold isLetter at h
  simp at h
  omega
set_option maxRecDepth 100000 in
set_option maxHeartbeats 3200000 in
theorem adParse_mark (A D : Bs) (fr fc : Bool) (w : World) (h1 : 1 ≤ A.length) (h3 : A.length ≤ 3) (hA : ∀ c ∈ A, isCap c = true) (d1 : 1 ≤ D.length) (d7 : D.length ≤ 7) (hD : AllDig D) (hD0 : atIs D 0 48 = false) :
    Calls Tryd.prog 51 #[.string ⟨(dolB fc ++ (A ++ (dolB fr ++ D))).toArray⟩] w fun e w' => e = .returned (.tuple #[markV ((natOf (digL D) : Int) - 1) ((colOf A : Int) - 1) fr fc, .bool true]) ∧ Below w.heap.size w w' := by
  have CC := Lib.hid (fun W => column_any A W h1 h3 hA)
  have CN := Lib.hid (fun W => adNumber_any D W d1 d7 hD hD0)
  have atA : atIs (A ++ (dolB fr ++ D)) 0 36 = false := by
    cases A with
    | nil => simp at h1
    | cons x t =>
      rw [List.cons_append, atIs_cons]
      have := hA x (by simp)
      rw [beq_eq_false_iff_ne]
      intro e
      rw [e] at this
      cases this
  have atD : atIs D 0 36 = false := by
    cases D with
    | nil => simp at d1
    | cons x t =>
      rw [atIs_cons]
      have := hD x (by simp)
      rw [beq_eq_false_iff_ne]
      intro e
      rw [e] at this
      cases this
  have C1 := Lib.hid (fun W => cutPrefix_any (dolB fc ++ (A ++ (dolB fr ++ D))) [36] W)
  rw [trim_dol fc _ atA, hasPrefix_at, atIs_dol fc _ atA] at C1
  have C2 := Lib.hid (fun W => cutPrefix_any (dolB fr ++ D) [36] W)
  rw [trim_dol fr _ atD, hasPrefix_at, atIs_dol fr _ atD] at C2
  have hR : runP isLetter (A ++ (dolB fr ++ D)) = A.length := by
    rw [runP_app _ _ _ (fun c hc => cap_letter c (hA c hc))]
    have : runP isLetter (dolB fr ++ D) = 0 := by
      cases fr
      · cases D with
        | nil => simp at d1
        | cons x t =>
          have h1 := (isDigit_iff x).1 (hD x (by simp))
          have h2 : isLetter x = false := by
            unfold isLetter
            rw [decide_eq_false (by omega : ¬ 97 ≤ x.toNat), decide_eq_false (by omega : ¬ 65 ≤ x.toNat)]
            rfl
          simp [dolB, runP, h2]
      · rfl
    omega
  have HT : Hid ((A ++ (dolB fr ++ D)).take A.length = A) := Lib.hid List.take_left
  have HDr : Hid ((A ++ (dolB fr ++ D)).drop A.length = dolB fr ++ D) := Lib.hid List.drop_left
  have hSl : (A ++ (dolB fr ++ D)).length ≤ 20 := by
    have : (dolB fr).length ≤ 1 := by cases fr <;> decide
    simp only [List.length_append]
    omega
  have hSl2 : A.length < (A ++ (dolB fr ++ D)).length := by
    simp only [List.length_append]
    omega
  have hcb := colOf_bd A hA 3 (by omega)
  rw [List.take_of_length_le h3] at hcb
  have hnb := natOf_bd D hD d7 7
  rw [List.take_of_length_le d7] at hnb
  have HR := Lib.hid hR
  clear hR atA atD hA hD hD0
  generalize natOf (digL D) = n at *
  generalize colOf A = cc at *
  generalize dolB fr ++ D = S2 at *
  generalize A ++ S2 = S at *
  generalize dolB fc ++ S = S0 at *
  have L0 : Hid (Lies ((w.alloc (.cells #[.int .i64 0, .int .i64 0, .bool false, .bool false] 59)).alloc (.cells #[.int .i64 0, .int .i64 0, .bool false, .bool fc] 59)) w.heap.size 59 #[.int .i64 0, .int .i64 0, .bool false, .bool false]) := Lib.hid ((Lies.new w _ _).alloc _)
  have M0 : Hid (Lies ((w.alloc (.cells #[.int .i64 0, .int .i64 0, .bool false, .bool false] 59)).alloc (.cells #[.int .i64 0, .int .i64 0, .bool false, .bool fc] 59)) (w.heap.size + 1) 59 #[.int .i64 0, .int .i64 0, .bool false, .bool fc]) := Lib.hid (by have := Lies.new (w.alloc (.cells #[.int .i64 0, .int .i64 0, .bool false, .bool false] 59)) 59 #[.int .i64 0, .int .i64 0, .bool false, .bool fc]; simpa using this)
  have B0 : Hid (Below w.heap.size w ((w.alloc (.cells #[.int .i64 0, .int .i64 0, .bool false, .bool false] 59)).alloc (.cells #[.int .i64 0, .int .i64 0, .bool false, .bool fc] 59))) := Lib.hid (((Below.refl _ w).alloc (Nat.le_refl _) _).alloc (by simp) _)
  go_enter Tryd.func51, Tryd.ntmps51
  go_wp2_with fail
  refine (C1.out _).mono ?_
  rintro e w1 ⟨rfl, rfl⟩
  go_wp2_with fail
  generalize hW : (w.alloc (.cells #[.int .i64 0, .int .i64 0, .bool false, .bool false] 59)).alloc (.cells #[.int .i64 0, .int .i64 0, .bool false, .bool fc] 59) = W at *
  clear hW
  go_loop [5] (fun i => ∃ k : Nat, k ≤ A.length ∧ i = .int .i64 k) (fun i => A.length - (intOf i).toNat)
  case atStart => exact ⟨0, Nat.zero_le _, rfl⟩
  case round =>
    obtain ⟨k, hk, rfl⟩ := hrel
    have hlt : k < S.length := by omega
    by_cases hka : k < A.length
    · have hle := runP_lt isLetter S k (by rw [HR.out]; exact hka) hlt
      have hle := letter_bytes _ hle
      rcases hle with ⟨q1, q2⟩ | ⟨q1, q2⟩
      · go_wp2_with fail
        all_goals
          go_round
          case rel => exact ⟨k + 1, by omega, by go_num⟩
          case measure => simp [intOf]; omega
      · have q3 : ¬ (S[k].toNat : Int) ≤ 90 := by omega
        go_wp2_with fail
        all_goals
          go_round
          case rel => exact ⟨k + 1, by omega, by go_num⟩
          case measure => simp [intOf]; omega
    · obtain rfl : k = A.length := by omega
      have hst : isLetter S[A.length] = false := by
        have h0 := HR.out
        have := runP_stop isLetter S (by rw [h0]; exact hlt)
        simp only [h0] at this
        exact this
      have hcs : ((S[A.length].toNat : Int) < 65) ∨ (90 < (S[A.length].toNat : Int) ∧ (S[A.length].toNat : Int) < 97) ∨ 122 < (S[A.length].toNat : Int) := by
        unfold isLetter at hst
        simp at hst
        omega
      clear hst
      rcases hcs with q1 | ⟨q1, q2⟩ | q1
      all_goals
        go_wp2_with fail
        rw [HT.out]
        refine (CC.out _).mono ?_
        rintro e w1 ⟨rfl, hb⟩
        have L1 := Lib.hid (L0.out.below hb)
        have M1 := Lib.hid (M0.out.below hb)
        have B1 := Lib.hid (B0.out.trans (hb.mono B0.out.size))
        clear hb
        go_wp2_with fail
        rw [HDr.out]
        refine (C2.out _).mono ?_
        rintro e w2 ⟨rfl, rfl⟩
        obtain ⟨c0, c1, c2, c3, f0, f1, f2, f3, hlt2⟩ := Lies.mark M1.out
        have M2 : Hid (Lies (w1.setCell ⟨w.heap.size + 1, 2, none⟩ (.bool fr)) (w.heap.size + 1) 59 #[.int .i64 0, .int .i64 0, .bool fr, .bool fc]) := Lib.hid (M1.out.put 2 (.bool fr))
        have L2 : Hid (Lies (w1.setCell ⟨w.heap.size + 1, 2, none⟩ (.bool fr)) w.heap.size 59 #[.int .i64 0, .int .i64 0, .bool false, .bool false]) := Lib.hid (L1.out.off (by omega) _)
        have B2 : Hid (Below w.heap.size w (w1.setCell ⟨w.heap.size + 1, 2, none⟩ (.bool fr))) := Lib.hid (B1.out.setCell (p := ⟨w.heap.size + 1, 2, none⟩) (Nat.le_succ _) _)
        clear L1 M1 B1 L0 M0 B0
        go_wp2_with fail
        refine (CN.out _).mono ?_
        rintro e w3 ⟨rfl, hb⟩
        have L3 := Lib.hid (L2.out.below hb)
        have M3 := Lib.hid (M2.out.below hb)
        have B3 := Lib.hid (B2.out.trans (hb.mono B2.out.size))
        clear hb L2 M2 B2 c0 c1 c2 c3 f0 f1 f2 f3 hlt2
        obtain ⟨c0, c1, c2, c3, f0, f1, f2, f3, hlt2⟩ := Lies.mark M3.out
        obtain ⟨d0, d1, d2, d3, g0, g1, g2, g3, hlt3⟩ := Lies.mark L3.out
        go_wp2_with fail
        refine bodyPost_ret (v := .tuple #[.agg #[.int .i64 ((n : Int) - 1), .int .i64 ((cc : Int) - 1), .bool fr, .bool fc], .bool true]) (by simp [results, Tryd.results51, go_sem, d0, d1, d2, d3]) rfl ?_
        exact ⟨rfl, (((((B3.out.setCell (p := ⟨w.heap.size + 1, 0, none⟩) (Nat.le_succ _) _).setCell (p := ⟨w.heap.size + 1, 1, none⟩) (Nat.le_succ _) _).setCell (p := ⟨w.heap.size, 0, none⟩) (Nat.le_refl _) _).setCell (p := ⟨w.heap.size, 1, none⟩) (Nat.le_refl _) _).setCell (p := ⟨w.heap.size, 2, none⟩) (Nat.le_refl _) _).setCell (p := ⟨w.heap.size, 3, none⟩) (Nat.le_refl _) _⟩
end Go.Proofs.YtcgdeoldgnjdeaaDoor
