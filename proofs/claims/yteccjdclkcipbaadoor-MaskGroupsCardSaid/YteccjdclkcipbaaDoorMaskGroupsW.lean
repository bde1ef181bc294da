/-
  counterpanelaw31.MaskGroups: the walk.
-/
import Derived.Test.YteccjdclkcipbaaDoorMask10
import Derived.Test.YteccjdclkcipbaaDoorPlainMh
import Derived.Test.YteccjdclkcipbaaDoorRefA3
namespace Go.Proofs.YteccjdclkcipbaaDoor
open Go.RowKit

theorem ok_0 (g : Bool) : SecsOk [sec0 g] := ⟨by simp, by simp, fun s hs => by
  rw [List.mem_singleton.1 hs]
  refine ⟨by simp [sec0], by simp [sec0], fun p hp => ?_⟩
  simp only [sec0, List.mem_singleton] at hp
  rw [hp]
  cases g <;> exact ⟨by decide, by decide, by decide, by decide, by decide⟩⟩
/-- the three boxes, in a world that grew out of base W -/
def GIn (W : World) (n q1 q2 : Nat) (m e : Int) (s1 s2 v1 v2 : Value) (w' : World) : Prop :=
  w'.cell? ⟨n, 0, none⟩ = some (.int .i64 m) ∧ w'.cell? ⟨n, 1, none⟩ = some (.int .i64 e) ∧ w'.cell? ⟨q1, 0, none⟩ = some s1 ∧ w'.cell? ⟨q1, 1, none⟩ = some v1 ∧ w'.cell? ⟨q2, 0, none⟩ = some s2 ∧ w'.cell? ⟨q2, 1, none⟩ = some v2 ∧ n < w'.heap.size ∧ q1 < w'.heap.size ∧ q2 < w'.heap.size ∧ Below W.heap.size W w'
theorem GIn.next {W : World} {n q1 q2 : Nat} {m e : Int} {s1 s2 v1 v2 : Value} {w w' : World} (h : GIn W n q1 q2 m e s1 s2 v1 v2 w) (hb : Below w.heap.size w w') : GIn W n q1 q2 m e s1 s2 v1 v2 w' := by
  obtain ⟨a1, a2, a3, a4, a5, a6, h1, h2, h3, b⟩ := h
  have hs := hb.size
  exact ⟨(hb.cell (p := ⟨_, _, none⟩) h1).trans a1, (hb.cell (p := ⟨_, _, none⟩) h1).trans a2, (hb.cell (p := ⟨_, _, none⟩) h2).trans a3, (hb.cell (p := ⟨_, _, none⟩) h2).trans a4, (hb.cell (p := ⟨_, _, none⟩) h3).trans a5, (hb.cell (p := ⟨_, _, none⟩) h3).trans a6, by omega, by omega, by omega, b.trans (hb.mono b.size)⟩
set_option maxRecDepth 100000 in
set_option maxHeartbeats 3200000 in
theorem maskGroups_any (m e : Int) (w : World) (h1 : -9223372036854775808 ≤ m) (h2 : m ≤ 9223372036854775807) (hT : Tab w) (hP : PowTab w) (hM : MaxVar w) :
    Calls Tryd.prog 6 #[numV m e] w fun x w' => x = .returned (.bool true) ∧ Below w.heap.size w w' := by
  have CA := Lib.hid (fun W h1 h2 h3 => awake31_any W h1 h2 h3)
  have CR := Lib.hid (fun W => rRight_any m e W h1 h2)
  clear h1 h2
  have HBN : Hid (Lies (w.alloc (.cells #[.int .i64 m, .int .i64 e] 23)) w.heap.size 23 #[.int .i64 m, .int .i64 e]) := Lib.hid (Lies.new w _ _)
  have HB0 : Hid (Below w.heap.size w (w.alloc (.cells #[.int .i64 m, .int .i64 e] 23))) := Lib.hid ((Below.refl _ w).alloc (Nat.le_refl _) _)
  have HT := Lib.hid hT
  have HP := Lib.hid hP
  have HM := Lib.hid hM
  clear hT hP hM
  by_cases hR : pRight m e = true
  · rw [hR] at CR
    have hbd := rb hR
    have CP0 := Lib.hid (fun W => parse_mask [48] W (by decide))
    have CPg := Lib.hid (fun W => parse_mask [35, 44, 35, 35, 48] W (by decide))
    rw [parse_0] at CP0
    rw [parse_g] at CPg
    have S0 := Lib.hid (fun v W h1 h2 h3 h4 => mshow_num [48] v [sec0 false] ⟨1, m, e, [], false, 0⟩ W rfl h1 (ok_0 false) h2 h3 h4 hR)
    have Sg := Lib.hid (fun v W h1 h2 h3 h4 => mshow_num [35, 44, 35, 35, 48] v [sec0 true] ⟨1, m, e, [], false, 0⟩ W rfl h1 (ok_0 true) h2 h3 h4 hR)
    dsimp only at S0 Sg
    rw [number0] at S0 Sg
    have hW := whole0_is (m.natAbs : Int) e (by omega)
    have hL : (whole0 (m.natAbs : Int) e).length ≤ 255 := Nat.le_trans (cut_short _ _).1 (nText_short _ _ (nRound_right _ _ _ (pRight_abs m e hR)))
    simp only [if_true, Bool.false_eq_true, if_false] at S0 Sg
    generalize whole0 (m.natAbs : Int) e = T at *
    generalize (decide (m < 0) && oneNine T) = q at *
    have HG := Lib.hid (group_law q T hW.1)
    have hGL := groupG_len T
    have HC := Lib.hid hW
    clear hW hbd hR
    go_enter Tryd.func6, Tryd.ntmps6
    go_wp2_with fail
    refine (CA.out _ (HT.out.next HB0.out) (HP.out.next HB0.out) (HM.out.next HB0.out)).mono ?_
    rintro x w1 ⟨rfl, hb⟩
    have HBN1 := Lib.hid (Lies.below HBN.out hb)
    have HB1 := Lib.hid (HB0.out.trans (hb.mono HB0.out.size))
    have x0 := HBN1.out.cell 0
    have x1 := HBN1.out.cell 1
    simp only [List.getElem?_toArray, List.getElem?_cons_zero, List.getElem?_cons_succ] at x0 x1
    clear hb HBN HB0 CA
    go_wp2_with fail
    refine (CR.out _).mono ?_
    rintro x w2 ⟨rfl, hb⟩
    have HBN2 := Lib.hid (Lies.below HBN1.out hb)
    have HB2 := Lib.hid (HB1.out.trans (hb.mono HB1.out.size))
    clear hb HBN1 HB1 CR x0 x1
    go_wp2_with fail
    refine (CP0.out _).mono ?_
    rintro x w3 ⟨v1, rfl, hf1, hb1⟩
    obtain ⟨g1, c1, rfl, hg1⟩ := hf1.form (by simp)
    have hbn1 : Below w3.heap.size w3 (w3.alloc (.cells #[.string ⟨#[48]⟩, .slice (some ⟨g1, 0, none⟩) 1 c1] 43)) := (Below.refl _ _).alloc (Nat.le_refl _) _
    have HF1 := Lib.hid (hf1.next hbn1)
    have HBx1 : Hid (Lies (w3.alloc (.cells #[.string ⟨#[48]⟩, .slice (some ⟨g1, 0, none⟩) 1 c1] 43)) w3.heap.size 43 #[.string ⟨#[48]⟩, .slice (some ⟨g1, 0, none⟩) 1 c1]) := Lib.hid (Lies.new w3 _ _)
    have HB3 := Lib.hid (HB2.out.trans ((hb1.trans (hbn1.mono hb1.size)).mono HB2.out.size))
    have HBN3 := Lib.hid (Lies.below (Lies.below HBN2.out hb1) hbn1)
    clear hbn1 hf1 hb1 hg1 CP0 HBN2 HB2
    have hl1 : [sec0 false].length = 1 := rfl
    rw [hl1]
    clear hl1
    go_wp2_with fail
    refine (CPg.out _).mono ?_
    rintro x w4 ⟨v2, rfl, hf2, hb2⟩
    obtain ⟨g2, c2, rfl, hg2⟩ := hf2.form (by simp)
    have hbn2 : Below w4.heap.size w4 (w4.alloc (.cells #[.string ⟨#[35, 44, 35, 35, 48]⟩, .slice (some ⟨g2, 0, none⟩) 1 c2] 43)) := (Below.refl _ _).alloc (Nat.le_refl _) _
    have HF1' := Lib.hid ((HF1.out.next hb2).next hbn2)
    have HF2 := Lib.hid (hf2.next hbn2)
    have HBx1' := Lib.hid (Lies.below (Lies.below HBx1.out hb2) hbn2)
    have HBx2 : Hid (Lies (w4.alloc (.cells #[.string ⟨#[35, 44, 35, 35, 48]⟩, .slice (some ⟨g2, 0, none⟩) 1 c2] 43)) w4.heap.size 43 #[.string ⟨#[35, 44, 35, 35, 48]⟩, .slice (some ⟨g2, 0, none⟩) 1 c2]) := Lib.hid (Lies.new w4 _ _)
    have HB4 := Lib.hid (HB3.out.trans ((hb2.trans (hbn2.mono hb2.size)).mono HB3.out.size))
    have HBN4 := Lib.hid (Lies.below (Lies.below HBN3.out hb2) hbn2)
    clear hb2 hf2 hg2 hbn2 CPg HF1 HBx1 HB3 HBN3
    have hl2 : [sec0 true].length = 1 := rfl
    rw [hl2]
    clear hl2
    go_upto_region 7 with fail
    generalize hq1 : w3.heap.size = q1 at *
    generalize hW : w4.alloc (.cells #[.string ⟨#[35, 44, 35, 35, 48]⟩, .slice (some ⟨g2, 0, none⟩) 1 c2] 43) = W at *
    generalize hq2 : w4.heap.size = q2 at *
    generalize hn : w.heap.size = n at *
    clear hW hq1 hq2
    have K0 : Hid (∀ W', Below W.heap.size W W' → Calls Tryd.prog 28 #[.agg #[.string ⟨#[48]⟩, .slice (some ⟨g1, 0, none⟩) 1 c1], .agg #[.int .i64 1, .int .i64 m, .int .i64 e, .string ⟨#[]⟩, .bool false, .int .i64 0]] W' fun e w' => e = .returned (.string ⟨(sgB q ++ T).toArray⟩) ∧ Below W'.heap.size W' w') :=
      Lib.hid (fun W' hb => S0.out _ W' (HF1'.out.next hb) ((HT.out.next (hn ▸ HB4.out)).next hb) ((HP.out.next (hn ▸ HB4.out)).next hb) ((HM.out.next (hn ▸ HB4.out)).next hb))
    have Kg : Hid (∀ W', Below W.heap.size W W' → Calls Tryd.prog 28 #[.agg #[.string ⟨#[35, 44, 35, 35, 48]⟩, .slice (some ⟨g2, 0, none⟩) 1 c2], .agg #[.int .i64 1, .int .i64 m, .int .i64 e, .string ⟨#[]⟩, .bool false, .int .i64 0]] W' fun e w' => e = .returned (.string ⟨(sgB q ++ groupG T).toArray⟩) ∧ Below W'.heap.size W' w') :=
      Lib.hid (fun W' hb => Sg.out _ W' (HF2.out.next hb) ((HT.out.next (hn ▸ HB4.out)).next hb) ((HP.out.next (hn ▸ HB4.out)).next hb) ((HM.out.next (hn ▸ HB4.out)).next hb))
    have T0 : Hid (GIn W n q1 q2 m e (.string ⟨#[48]⟩) (.string ⟨#[35, 44, 35, 35, 48]⟩) (.slice (some ⟨g1, 0, none⟩) 1 c1) (.slice (some ⟨g2, 0, none⟩) 1 c2) W) :=
      Lib.hid ⟨HBN4.out.cell 0, HBN4.out.cell 1, HBx1'.out.cell 0, HBx1'.out.cell 1, HBx2.out.cell 0, HBx2.out.cell 1, HBN4.out.lt, HBx1'.out.lt, HBx2.out.lt, Below.refl _ _⟩
    clear S0 Sg HF1' HF2 HBN4 HBx1' HBx2 HT HP HM
    generalize hA : sgB q ++ T = A at *
    generalize hB : sgB q ++ groupG T = B at *
    go_cut [9, 10] (fun a b wx => a = .string ⟨A.toArray⟩ ∧ b = .string ⟨B.toArray⟩ ∧ Hid (Below W.heap.size W wx))
    case first =>
      go_region_held3 (fun w' => w'.cell? ⟨n, 0, none⟩ = some (.int .i64 m) ∧ w'.cell? ⟨n, 1, none⟩ = some (.int .i64 e) ∧ w'.cell? ⟨q1, 0, none⟩ = some (.string ⟨#[48]⟩) ∧ w'.cell? ⟨q1, 1, none⟩ = some (.slice (some ⟨g1, 0, none⟩) 1 c1) ∧ w'.cell? ⟨q2, 0, none⟩ = some (.string ⟨#[35, 44, 35, 35, 48]⟩) ∧ w'.cell? ⟨q2, 1, none⟩ = some (.slice (some ⟨g2, 0, none⟩) 1 c2) ∧ n < w'.heap.size ∧ q1 < w'.heap.size ∧ q2 < w'.heap.size ∧ Below W.heap.size W w')
        (first | exact T0.out | exact T0.out.next (Below.refl _ _).drew | exact (GIn.next (GIn.next T0.out (Below.refl _ _).drew) hb) | (go_split_ands; exact (GIn.next (W := W) ⟨by assumption, by assumption, by assumption, by assumption, by assumption, by assumption, by assumption, by assumption, by assumption, by assumption⟩ hb)))
        (first
          | (go_at_call 28; (with_reducible refine (K0.out _ ?hbw).mono ?_); (case hbw => (first | assumption | exact (Below.refl _ _).drew | (go_split_ands; assumption))); rintro x wx ⟨rfl, hb⟩)
          | (go_at_call 28; (with_reducible refine (Kg.out _ ?hbw).mono ?_); (case hbw => (first | assumption | exact (Below.refl _ _).drew | (go_split_ands; assumption))); rintro x wx ⟨rfl, hb⟩))
      all_goals go_wp2_with fail
      all_goals go_meet
      all_goals refine ⟨rfl, rfl, Lib.hid ?_⟩
      all_goals first | assumption | (go_split_ands; assumption)
    case rest =>
      obtain ⟨rfl, rfl, hb⟩ := hcut
      have HBf := Lib.hid (HB4.out.trans (hb.out.mono (by have := HB4.out.size; omega)))
      clear hb T0 K0 Kg HB4
      have hAl : A.length = (if q then 1 else 0) + T.length := by rw [← hA]; cases q <;> simp [sgB]; omega
      have hT1 : 0 < T.length := List.length_pos_iff.2 HC.out.2
      have hBl : B.length = A.length + (T.length - 1) / 3 := HG.out.2.2
      have h0 : 0 < A.length := by omega
      have hAle : A.length ≤ 300 := by rw [hAl]; cases q <;> simp <;> omega
      have hdash : ((A[0].toNat : Int) == 45) = q := by
        rw [at_beq A 0 45 45 rfl h0, ← hA]
        obtain ⟨c, r, rfl⟩ : ∃ c r, T = c :: r := by cases T with | nil => exact absurd rfl HC.out.2 | cons c r => exact ⟨c, r, rfl⟩
        have hc := HC.out.1 c (List.mem_cons_self ..)
        cases q
        · have : c ≠ 45 := by rintro rfl; exact absurd hc (by decide)
          simpa [sgB, atIs] using this
        · rfl
      have HDash := Lib.hid hdash
      have hBle : B.length ≤ 500 := by omega
      have HAl := Lib.hid hAl
      have HBl := Lib.hid hBl
      have HT1 := Lib.hid hT1
      clear hdash hA hB hL hGL HC hAl hBl hT1
      go_wp2_with fail
      go_loop [11, 12] (fun p v => ∃ i : Nat, i ≤ B.length ∧ v = .int .i64 (i : Int) ∧ p = .string ⟨(bare B i).toArray⟩) (fun _ v => B.length - (intOf v).toNat)
      case atStart => exact ⟨0, Nat.zero_le _, rfl, rfl⟩
      case round =>
        obtain ⟨i, hi, rfl, rfl⟩ := hrel
        have hl0 := bare_len B i
        by_cases hlt : i < B.length
        · have hl1 := bare_len B (i + 1)
          cases hat : atIs B i 44
          · have hst : bare B (i + 1) = bare B i ++ [B[i]] := by rw [bare_step B i hlt, hat]; rfl
            have hne : ((B[i].toNat : Int) != 44) = true := by rw [at_bne B i 44 44 rfl hlt, hat]; rfl
            have hex : List.take (i + 1 - i) (List.drop i B) = [B[i]] := by
              rw [show i + 1 - i = 1 by omega, List.drop_eq_getElem_cons hlt]; rfl
            have HST : Hid (bare B i ++ List.take 1 (List.drop i B) = bare B (i + 1)) := Lib.hid (by rw [hst, show 1 = i + 1 - i by omega, hex])
            clear hst hex
            generalize bare B i = P0 at *
            go_wp2_with fail
            go_round
            case rel => exact ⟨i + 1, by omega, by go_num, str_eq HST.out⟩
            case measure => simp [intOf]; omega
          · have hst : bare B (i + 1) = bare B i := by rw [bare_step B i hlt, hat]; rfl
            have hne : ((B[i].toNat : Int) != 44) = false := by rw [at_bne B i 44 44 rfl hlt, hat]; rfl
            obtain ⟨k1, k2, d, k3, k4⟩ := HG.out.1 i (by simpa [atIs] using hat)
            obtain ⟨j, rfl⟩ : ∃ j, i = j + 1 := ⟨i - 1, by omega⟩
            have hj : j < B.length := by omega
            have hd : ((B[j].toNat : Int) == 45) = false := by
              rw [at_beq B j 45 45 rfl hj]
              unfold atIs
              rw [show j = j + 1 - 1 by omega, k3]
              have : d ≠ 45 := by rintro rfl; exact absurd k4 (by decide)
              simpa using this
            have hrem : ((B.length : Int) - ((j : Int) + 1)) % 4 = 0 := by omega
            clear k1 k2 k3 k4 hat
            have HST := Lib.hid hst
            clear hst
            generalize bare B (j + 1) = P0 at *
            go_wp2_with fail
            go_round
            case rel => exact ⟨j + 1 + 1, by omega, by go_num, str_eq HST.out.symm⟩
            case measure => simp [intOf]; omega
        · obtain rfl : i = B.length := by omega
          have hbare : bare B B.length = A := (bare_all B).trans HG.out.2.1
          rw [hbare]
          clear hbare hl0 hlt hi
          have hdash := HDash.out
          cases q
          · go_wp2_with fail
            go_ret
            refine ⟨ret_bool ?_, HBf.out⟩
            have a1 := HAl.out
            have a2 := HBl.out
            have a3 := HT1.out
            simp only [Bool.false_eq_true, if_false] at a1
            rw [beq_iff_eq]
            omega
          · have hA2 : 2 ≤ A.length := by
              have a1 := HAl.out
              have a3 := HT1.out
              simp only [if_true] at a1
              omega
            go_wp2_with fail
            go_ret
            refine ⟨ret_bool ?_, HBf.out⟩
            have a1 := HAl.out
            have a2 := HBl.out
            have a3 := HT1.out
            simp only [if_true] at a1
            rw [beq_iff_eq]
            omega
  · have hR' : pRight m e = false := by simpa using hR
    rw [hR'] at CR
    clear hR hR'
    go_enter Tryd.func6, Tryd.ntmps6
    go_wp2_with fail
    refine (CA.out _ (HT.out.next HB0.out) (HP.out.next HB0.out) (HM.out.next HB0.out)).mono ?_
    rintro x w1 ⟨rfl, hb⟩
    have HBN1 := Lib.hid (Lies.below HBN.out hb)
    have HB1 := Lib.hid (HB0.out.trans (hb.mono HB0.out.size))
    have x0 := HBN1.out.cell 0
    have x1 := HBN1.out.cell 1
    simp only [List.getElem?_toArray, List.getElem?_cons_zero, List.getElem?_cons_succ] at x0 x1
    clear hb HBN HB0 CA
    go_wp2_with fail
    refine (CR.out _).mono ?_
    rintro x w2 ⟨rfl, hb⟩
    have HB2 := Lib.hid (HB1.out.trans (hb.mono HB1.out.size))
    clear hb HBN1 HB1 CR x0 x1
    go_wp2_with fail
    go_ret
    exact ⟨rfl, HB2.out⟩
end Go.Proofs.YteccjdclkcipbaaDoor
