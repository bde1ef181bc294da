/-
  counterpanelaw31.MaskReads: the walk.
-/
import Derived.Test.YteccjdclkcipbaaDoorMask10
import Derived.Test.YteccjdclkcipbaaDoorRefE2
import Derived.Test.YteccjdclkcipbaaDoorRefA8
namespace Go.Proofs.YteccjdclkcipbaaDoor
open Go.RowKit

theorem rRound_any (m e : Int) (k : Nat) (w : World) (hk : k ≤ 30) (hR : pRight m e = true) :
    Calls Tryd.prog 30 #[numV m e, .int .i64 k] w fun x w' => x = .returned (numV (nRound m e k).1 (nRound m e k).2) ∧ Below w.heap.size w w' := by
  by_cases h5 : -(k : Int) ≤ e
  · exact rRound_easy m e k w hk hR h5
  · obtain ⟨j, hj⟩ : ∃ j : Nat, -(k : Int) - e = j := ⟨(-(k : Int) - e).toNat, by omega⟩
    by_cases hl : (dl m.natAbs).length < j
    · exact rRound_past m e k w hk hR j hj hl
    · exact rRound_near m e k w hk hR j ((dl m.natAbs).length - j) hj (by omega) (by omega)
theorem ok_P (k : Nat) (hk : k ≤ 30) : SecsOk [secP k] := ⟨by simp, by simp, fun s hs => by
  rw [List.mem_singleton.1 hs]
  refine ⟨by simp [secP], by simp [secP], fun p hp => ?_⟩
  simp only [secP, List.mem_singleton] at hp
  rw [hp]
  exact ⟨by simp [partP], by simp [partP], by simp [partP]; omega, by simp [partP]; omega, by simp [partP]⟩⟩
theorem rep_more (i : Nat) : Value.string ((ByteArray.mk (48 :: 46 :: List.replicate i 48 : Bs).toArray) ++ (ByteArray.mk #[48])) = .string ⟨(48 :: 46 :: List.replicate (i + 1) 48 : Bs).toArray⟩ := by
  rw [List.replicate_succ', ← List.cons_append, ← List.cons_append, ← S_append]
/-- two numbers' boxes, in a world that grew out of base W -/
def XIn (W : World) (n q : Nat) (m e r1 r2 : Int) (w' : World) : Prop :=
  w'.cell? ⟨n, 0, none⟩ = some (.int .i64 m) ∧ w'.cell? ⟨n, 1, none⟩ = some (.int .i64 e) ∧ w'.cell? ⟨q, 0, none⟩ = some (.int .i64 r1) ∧ w'.cell? ⟨q, 1, none⟩ = some (.int .i64 r2) ∧ n < w'.heap.size ∧ q < w'.heap.size ∧ Below W.heap.size W w'
theorem XIn.next {W : World} {n q : Nat} {m e r1 r2 : Int} {w w' : World} (h : XIn W n q m e r1 r2 w) (hb : Below w.heap.size w w') : XIn W n q m e r1 r2 w' := by
  obtain ⟨a1, a2, a3, a4, h1, h2, b⟩ := h
  have hs := hb.size
  exact ⟨(hb.cell (p := ⟨_, _, none⟩) h1).trans a1, (hb.cell (p := ⟨_, _, none⟩) h1).trans a2, (hb.cell (p := ⟨_, _, none⟩) h2).trans a3, (hb.cell (p := ⟨_, _, none⟩) h2).trans a4, by omega, by omega, b.trans (hb.mono b.size)⟩
theorem run_eql_nums (m e : Int) (w : World) : (binOp .eql 23 (.agg #[.int .i64 m, .int .i64 e]) (.agg #[.int .i64 m, .int .i64 e])).run Tryd.prog w = .ok (.bool true) w := by
  go_simp
set_option maxRecDepth 100000 in
set_option maxHeartbeats 6400000 in
theorem maskReads_any (m e : Int) (n : Nat) (w : World) (hn : n ≤ 255) (h1 : -9223372036854775808 ≤ m) (h2 : m ≤ 9223372036854775807) (hT : Tab w) (hP : PowTab w) (hM : MaxVar w) :
    Calls Tryd.prog 4 #[numV m e, .int .u8 (n : Int)] w fun x w' => x = .returned (.bool true) ∧ Below w.heap.size w w' := by
  have CA := Lib.hid (fun W h1 h2 h3 => awake31_any W h1 h2 h3)
  have CR := Lib.hid (fun W => rRight_any m e W h1 h2)
  clear h1 h2
  have HBN : Hid (Lies (w.alloc (.cells #[.int .i64 m, .int .i64 e] 23)) w.heap.size 23 #[.int .i64 m, .int .i64 e]) := Lib.hid (Lies.new w _ _)
  have HB0 : Hid (Below w.heap.size w (w.alloc (.cells #[.int .i64 m, .int .i64 e] 23))) := Lib.hid ((Below.refl _ w).alloc (Nat.le_refl _) _)
  have HT := Lib.hid hT
  have HP := Lib.hid hP
  have HM := Lib.hid hM
  clear hT hP hM
  by_cases hR : pRight m e = true
  · rw [hR] at CR
    obtain ⟨k, hkn⟩ : ∃ k : Nat, (n : Int) % 31 = (k : Int) := ⟨((n : Int) % 31).toNat, by omega⟩
    have hk : k ≤ 30 := by omega
    have CP := Lib.hid (fun W => parse_mask (48 :: 46 :: List.replicate k 48) W (by simp; omega))
    rw [parse_P k (by omega)] at CP
    have CS := Lib.hid (fun tx v W h1 h2 h3 h4 => mshow_num tx v [secP k] ⟨1, m, e, [], false, 0⟩ W rfl h1 (ok_P k hk) h2 h3 h4 hR)
    dsimp only at CS
    obtain ⟨hr1, hr2, hr3, hr4⟩ := reads_P m e k hR hk
    have HR3 := Lib.hid hr3
    have HR4 := Lib.hid hr4
    have CRo := Lib.hid (fun W => rRound_any m e k W hk hR)
    clear hr3 hr4 hR
    generalize mNumber [secP k] m e = T at *
    generalize nRound m e k = r at *
    go_enter Tryd.func4, Tryd.ntmps4
    go_wp2_with fail
    refine (CA.out _ (HT.out.next HB0.out) (HP.out.next HB0.out) (HM.out.next HB0.out)).mono ?_
    rintro x w1 ⟨rfl, hb⟩
    have HBN1 := Lib.hid (Lies.below HBN.out hb)
    have HB1 := Lib.hid (HB0.out.trans (hb.mono HB0.out.size))
    have x0 := HBN1.out.cell 0
    have x1 := HBN1.out.cell 1
    simp only [List.getElem?_toArray, List.getElem?_cons_zero, List.getElem?_cons_succ] at x0 x1
    clear hb HBN HB0 CA
    go_wp2_with fail
    refine (CR.out _).mono ?_
    rintro x w2 ⟨rfl, hb⟩
    have HBN2 := Lib.hid (Lies.below HBN1.out hb)
    have HB2 := Lib.hid (HB1.out.trans (hb.mono HB1.out.size))
    clear hb HBN1 HB1 CR x0 x1
    go_wp2_with fail
    go_loop [6, 7] (fun p v => ∃ i : Nat, i ≤ k ∧ v = .int .i64 (i : Int) ∧ p = .string ⟨(48 :: 46 :: List.replicate i 48 : Bs).toArray⟩) (fun _ v => k - (intOf v).toNat)
    case atStart => exact ⟨0, Nat.zero_le _, rfl, rfl⟩
    case round =>
      obtain ⟨i, hi, rfl, rfl⟩ := hrel
      by_cases hlt : i < k
      · have hr := Lib.hid (rep_more i)
        have hl : (48 :: 46 :: List.replicate i 48 : Bs).length ≤ 255 := by simp; omega
        go_wp2_with fail
        go_round
        case rel => exact ⟨i + 1, by omega, by go_num, by first | exact hr.out | simpa using hr.out⟩
        case measure => simp [intOf]; omega
      · obtain rfl : i = k := by omega
        clear hlt hi
        generalize (48 :: 46 :: List.replicate i 48 : Bs) = S at *
        go_wp2_with fail
        refine (CP.out _).mono ?_
        rintro x w3 ⟨v1, rfl, hf1, hb1⟩
        obtain ⟨g1, c1, rfl, hg1⟩ := hf1.form (by simp)
        have hbn1 : Below w3.heap.size w3 (w3.alloc (.cells #[.string ⟨S.toArray⟩, .slice (some ⟨g1, 0, none⟩) 1 c1] 43)) := (Below.refl _ _).alloc (Nat.le_refl _) _
        have HF1 := Lib.hid (hf1.next hbn1)
        have HB3 := Lib.hid (HB2.out.trans ((hb1.trans (hbn1.mono hb1.size)).mono HB2.out.size))
        have HBN3 := Lib.hid (Lies.below (Lies.below HBN2.out hb1) hbn1)
        clear hbn1 hf1 hb1 hg1 CP HBN2 HB2
        have hl1 : [secP i].length = 1 := rfl
        rw [hl1] at HF1 ⊢
        clear hl1
        have x0 := HBN3.out.cell 0
        have x1 := HBN3.out.cell 1
        simp only [List.getElem?_toArray, List.getElem?_cons_zero, List.getElem?_cons_succ] at x0 x1
        go_wp2_with fail
        refine (CS.out _ _ _ HF1.out (HT.out.next HB3.out) (HP.out.next HB3.out) (HM.out.next HB3.out)).mono ?_
        rintro x w4 ⟨rfl, hb⟩
        have HB4 := Lib.hid (HB3.out.trans (hb.mono HB3.out.size))
        have HBN4 := Lib.hid (Lies.below HBN3.out hb)
        clear hb x0 x1 HB3 HBN3 CS HF1 HT HP HM
        go_upto_if 47 with fail
        go_cut [11] (fun v wx => ∃ t : Bs, v = .string ⟨t.toArray⟩ ∧ t.length ≤ 255 ∧ Hid (pParse t = some r) ∧ w4 = wx)
        case first =>
          by_cases k0 : i = 0
          · have bk : ((i : Int) == 0) = true := by rw [beq_iff_eq]; omega
            obtain ⟨t, hTt, hpt⟩ := HR3.out k0
            subst hTt
            have hpt2 := Lib.hid hpt
            simp only [List.length_append, List.length_cons, List.length_nil] at hr1 hr2
            clear hpt k0
            go_wp2_with fail
            go_meet
            exact ⟨t, by simp, by omega, hpt2, rfl⟩
          · have bk : ((i : Int) == 0) = false := by rw [beq_eq_false_iff_ne]; omega
            have hpt2 := Lib.hid (HR4.out (by omega))
            clear k0
            go_wp2_with fail
            go_meet
            exact ⟨T, rfl, by omega, hpt2, rfl⟩
        case rest =>
          obtain ⟨t, rfl, htl, hpt, rfl⟩ := hcut
          have CQ := Lib.hid (fun W => rparse_any t W (by omega))
          rw [← parse_eq, hpt.out] at CQ
          clear hpt HR3 HR4 hr1 hr2
          obtain ⟨r1, r2⟩ := r
          unfold numOut at CQ
          dsimp only at CQ CRo
          go_wp2_with fail
          refine (CQ.out _).mono ?_
          rintro x w5 ⟨rfl, hb⟩
          have hbn : Below w5.heap.size w5 (w5.alloc (.cells #[.int .i64 r1, .int .i64 r2] 23)) := (Below.refl _ _).alloc (Nat.le_refl _) _
          have HB5 := Lib.hid (HB4.out.trans ((hb.trans (hbn.mono hb.size)).mono HB4.out.size))
          have HBN5 := Lib.hid (Lies.below (Lies.below HBN4.out hb) hbn)
          have HX : Hid (Lies (w5.alloc (.cells #[.int .i64 r1, .int .i64 r2] 23)) w5.heap.size 23 #[.int .i64 r1, .int .i64 r2]) := Lib.hid (Lies.new w5 _ _)
          clear hb hbn HB4 HBN4 CQ
          have hE := run_eql_nums r1 r2
          go_upto_region 20 with fail
          have T0 : Hid (XIn (w5.alloc (.cells #[.int .i64 r1, .int .i64 r2] 23)) w.heap.size w5.heap.size m e r1 r2 (w5.alloc (.cells #[.int .i64 r1, .int .i64 r2] 23))) :=
            Lib.hid ⟨HBN5.out.cell 0, HBN5.out.cell 1, HX.out.cell 0, HX.out.cell 1, HBN5.out.lt, HX.out.lt, Below.refl _ _⟩
          clear HBN5 HX
          generalize hW : w5.alloc (.cells #[.int .i64 r1, .int .i64 r2] 23) = W at *
          generalize hq : w5.heap.size = q at *
          generalize hn0 : w.heap.size = N0 at *
          clear hW hq
          have K0 : Hid (∀ W', Calls Tryd.prog 30 #[.agg #[.int .i64 m, .int .i64 e], .int .i64 (i : Int)] W' fun x w' => x = .returned (.agg #[.int .i64 r1, .int .i64 r2]) ∧ Below W'.heap.size W' w') := Lib.hid (fun W' => CRo.out W')
          clear CRo
          go_region_held3 (fun w' => w'.cell? ⟨N0, 0, none⟩ = some (.int .i64 m) ∧ w'.cell? ⟨N0, 1, none⟩ = some (.int .i64 e) ∧ w'.cell? ⟨q, 0, none⟩ = some (.int .i64 r1) ∧ w'.cell? ⟨q, 1, none⟩ = some (.int .i64 r2) ∧ N0 < w'.heap.size ∧ q < w'.heap.size ∧ Below W.heap.size W w')
            (first | exact T0.out | exact T0.out.next (Below.refl _ _).drew | exact (XIn.next (XIn.next T0.out (Below.refl _ _).drew) hb) | (go_split_ands; exact (XIn.next (W := W) ⟨by assumption, by assumption, by assumption, by assumption, by assumption, by assumption, by assumption⟩ hb)))
            ((go_at_call 30; (with_reducible refine (K0.out _).mono ?_); rintro x wx ⟨rfl, hb⟩))
          all_goals go_wp2_with fail
          all_goals go_ret
          all_goals rw [hn0]
          all_goals exact ⟨rfl, HB5.out.trans (Below.mono (by first | assumption | (go_split_ands; assumption)) (by have := HB5.out.size; omega))⟩
  · have hR' : pRight m e = false := by simpa using hR
    rw [hR'] at CR
    clear hR hR'
    go_enter Tryd.func4, Tryd.ntmps4
    go_wp2_with fail
    refine (CA.out _ (HT.out.next HB0.out) (HP.out.next HB0.out) (HM.out.next HB0.out)).mono ?_
    rintro x w1 ⟨rfl, hb⟩
    have HBN1 := Lib.hid (Lies.below HBN.out hb)
    have HB1 := Lib.hid (HB0.out.trans (hb.mono HB0.out.size))
    have x0 := HBN1.out.cell 0
    have x1 := HBN1.out.cell 1
    simp only [List.getElem?_toArray, List.getElem?_cons_zero, List.getElem?_cons_succ] at x0 x1
    clear hb HBN HB0 CA
    go_wp2_with fail
    refine (CR.out _).mono ?_
    rintro x w2 ⟨rfl, hb⟩
    have HB2 := Lib.hid (HB1.out.trans (hb.mono HB1.out.size))
    clear hb HBN1 HB1 CR x0 x1
    go_wp2_with fail
    go_ret
    exact ⟨rfl, HB2.out⟩
end Go.Proofs.YteccjdclkcipbaaDoor
