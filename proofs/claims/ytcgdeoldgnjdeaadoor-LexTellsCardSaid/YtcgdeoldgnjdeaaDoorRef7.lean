/-
  counterpaneref05.Next: what it returns.
-/
import Derived.Test.YtcgdeoldgnjdeaaDoorRef6
import Derived.Test.YtcgdeoldgnjdeaaDoorPlainX
namespace Go.Proofs.YtcgdeoldgnjdeaaDoor
open Go.RowKit

/-- what Next leaves -/
def NextPost (l : Bs) (w : World) (e : Ending) (w' : World) : Prop := ∃ (kind : Nat) (text : Bs) (size : Nat), e = .returned (.tuple #[.agg #[.int .i64 kind, .string ⟨text.toArray⟩, .int .i64 0], .int .i64 size]) ∧ NextIs l kind text size ∧ Below w.heap.size w w'
theorem nextPost_mk {l : Bs} {w w' : World} (kind : Nat) (text : Bs) (size : Nat) (h : NextIs l kind text size) (hb : Below w.heap.size w w') : NextPost l w (.returned (.tuple #[.agg #[.int .i64 kind, .string ⟨text.toArray⟩, .int .i64 0], .int .i64 size])) w' := ⟨kind, text, size, rfl, h, hb⟩

set_option maxRecDepth 100000 in
set_option maxHeartbeats 3200000 in
theorem rNext_any (l : Bs) (w : World) (hp : 0 < l.length) (hs : l.length ≤ 1000000) :
    Calls Tryd.prog 67 #[.string ⟨l.toArray⟩] w fun e w' => NextPost l w e w' := by
  have hT : pToken l = if 0 < pNumber l then (1, l.take (pNumber l), pNumber l)
    else if wordy l then pWord l
    else if atIs l 0 34 then pQuoted l
    else if 0 < (pFaultB l).length then (6, pFaultB l, (pFaultB l).length)
    else if 0 < pSign l then (5, l.take (pSign l), pSign l)
    else (0, [], 0) := rfl
  have HT := Lib.hid hT
  clear hT
  have hnl := pNumber_le l
  go_enter Tryd.func67, Tryd.ntmps67
  go_wp2_with fail
  refine (rnumber_any l _ hs).mono ?_
  rintro e w' ⟨rfl, rfl⟩
  generalize pNumber l = n at *
  by_cases hn : 0 < n
  · have HT2 := Lib.hid (HT.out.trans (if_pos hn))
    clear HT
    go_wp2_with fail
    refine bodyPost_ret (v := .tuple #[.agg #[.int .i64 1, .string ⟨(l.take n).toArray⟩, .int .i64 0], .int .i64 n]) (by simp [results, Tryd.results67, go_sem]) rfl ?_
    exact nextPost_mk 1 (l.take n) n (nextIs_of HT2.out) ((Below.refl _ w).alloc (Nat.le_refl _) _)
  · have HT2 := Lib.hid (HT.out.trans (if_neg hn))
    clear HT
    go_wp2_with fail
    refine (rword_any l _ hs).mono ?_
    rintro e w' ⟨rfl, rfl⟩
    cases hw : wordy l
    · have hr0 := rWord_no l hw
      rw [hw, if_neg (by decide)] at HT2
      rw [hr0]
      clear hr0
      have e34 := at_beq l 0 34 34 rfl hp
      cases h34 : atIs l 0 34
      · rw [h34] at e34
        rw [h34, if_neg (by decide)] at HT2
        go_wp2_with fail
        refine (faults_any _).mono ?_
        rintro e w1 ⟨g, rfl, hgs, hst, hb1⟩
        simp only [World.size_alloc] at hgs
        have hg1 : ¬ g = w.heap.size := by omega
        have hg2 : ¬ w.heap.size = g := by omega
        have HB1 : Hid (Below w.heap.size w w1) := Lib.hid (((Below.refl _ w).alloc (Nat.le_refl _) _).trans (hb1.mono (by simp)))
        have q0 : w1.cell? ⟨w.heap.size, 0, none⟩ = some (.int .i64 0) := (hb1.cell (p := ⟨w.heap.size, 0, none⟩) (by simp)).trans (by simp)
        have q1 : w1.cell? ⟨w.heap.size, 1, none⟩ = some (.string ⟨#[]⟩) := (hb1.cell (p := ⟨w.heap.size, 1, none⟩) (by simp)).trans (by simp)
        have q2 : w1.cell? ⟨w.heap.size, 2, none⟩ = some (.int .i64 0) := (hb1.cell (p := ⟨w.heap.size, 2, none⟩) (by simp)).trans (by simp)
        have f0 : w1.frozen? ⟨w.heap.size, 0, none⟩ = false := (hb1.frozen (p := ⟨w.heap.size, 0, none⟩) (by simp)).trans (by simp)
        have f1 : w1.frozen? ⟨w.heap.size, 1, none⟩ = false := (hb1.frozen (p := ⟨w.heap.size, 1, none⟩) (by simp)).trans (by simp)
        have f2 : w1.frozen? ⟨w.heap.size, 2, none⟩ = false := (hb1.frozen (p := ⟨w.heap.size, 2, none⟩) (by simp)).trans (by simp)
        have hz : w.heap.size < w1.heap.size := by have := hb1.size; simp at this; omega
        have HS := Lib.hid hst
        clear hb1 hst
        go_wp2_with fail
        go_loopg [9] 9 (fun gk i wr => ∃ k : Nat, 1 ≤ k ∧ k ≤ 10 ∧ gk = 10 - k ∧ i = .int .i64 k ∧ Hid (∀ j, 1 ≤ j → j < k → pFaultAt l j = false) ∧ w1 = wr)
        case atStart => exact ⟨1, by omega, by omega, rfl, rfl, Lib.hid (fun j _ _ => by omega), rfl⟩
        case round =>
          obtain ⟨k, hk1, hk2, rfl, rfl, hq, rfl⟩ := hrel
          by_cases hlt : k < 10
          · have hc := HS.out.2 k (by simp [faultsL]; omega)
            have hfk : faultsL[k]'(by simp [faultsL]; omega) = faultB k := by simp [faultsL]
            rw [hfk] at hc
            clear hfk
            have hfl : Hid (0 < (faultB k).length) := Lib.hid (faultB_pos k hk1 hlt)
            have hk10 : (k : Int) < 10 := by omega
            go_wp2_with fail
            refine (begins_any true l (faultB k) _ hs).mono ?_
            rintro e w' ⟨rfl, rfl⟩
            rw [rBegins_true]
            cases hf : pFaultAt l k
            · go_wp2_with fail
              go_roundg (10 - (k + 1))
              case measure => omega
              case rel =>
                refine ⟨k + 1, by omega, by omega, rfl, by go_num, Lib.hid (fun j h1 h2 => ?_), rfl⟩
                by_cases e : j = k
                · rw [e]; exact hf
                · exact hq.out j h1 (by omega)
            · have hB := Lib.hid (fault_found l k hk1 hlt hf hq.out)
              go_wp2_with fail
              rw [hB.out, if_pos hfl.out] at HT2
              go_region
              all_goals go_wp2_with fail
              all_goals refine bodyPost_ret (v := .tuple #[.agg #[.int .i64 6, .string ⟨(faultB k).toArray⟩, .int .i64 0], .int .i64 (faultB k).length]) (by simp [results, Tryd.results67, go_sem, q0, q1, q2]) rfl ?_
              all_goals exact nextPost_mk 6 (faultB k) (faultB k).length (nextIs_of HT2.out) ((((HB1.out.setCell (p := ⟨w.heap.size, 0, none⟩) (Nat.le_refl _) _).setCell (p := ⟨w.heap.size, 1, none⟩) (Nat.le_refl _) _).setCell (p := ⟨w.heap.size, 2, none⟩) (Nat.le_refl _) _).drew)
          · have hB := Lib.hid (fault_none l (fun j h1 h2 => hq.out j h1 (by omega)))
            rw [hB.out, if_neg (by simp)] at HT2
            have hk10 : ¬ (k : Int) < 10 := by omega
            clear hq HS
            go_wp2_with fail
            refine (signs_any _).mono ?_
            rintro e w2 ⟨g2, rfl, hgs2, hst2, hb2⟩
            have hg3 : ¬ g2 = w.heap.size := by omega
            have hg4 : ¬ w.heap.size = g2 := by omega
            have HB2 : Hid (Below w.heap.size w w2) := Lib.hid (HB1.out.trans (hb2.mono HB1.out.size))
            have r0 : w2.cell? ⟨w.heap.size, 0, none⟩ = some (.int .i64 0) := (hb2.cell (p := ⟨w.heap.size, 0, none⟩) hz).trans q0
            have r1 : w2.cell? ⟨w.heap.size, 1, none⟩ = some (.string ⟨#[]⟩) := (hb2.cell (p := ⟨w.heap.size, 1, none⟩) hz).trans q1
            have r2 : w2.cell? ⟨w.heap.size, 2, none⟩ = some (.int .i64 0) := (hb2.cell (p := ⟨w.heap.size, 2, none⟩) hz).trans q2
            have s0 : w2.frozen? ⟨w.heap.size, 0, none⟩ = false := (hb2.frozen (p := ⟨w.heap.size, 0, none⟩) hz).trans f0
            have s1 : w2.frozen? ⟨w.heap.size, 1, none⟩ = false := (hb2.frozen (p := ⟨w.heap.size, 1, none⟩) hz).trans f1
            have s2 : w2.frozen? ⟨w.heap.size, 2, none⟩ = false := (hb2.frozen (p := ⟨w.heap.size, 2, none⟩) hz).trans f2
            have hz2 : w.heap.size < w2.heap.size := by have := hb2.size; omega
            have HS2 := Lib.hid hst2
            clear hb2 hst2 q0 q1 q2 f0 f1 f2 hz HB1
            obtain ⟨c, r, hcr⟩ : ∃ c r, l = c :: r := by cases l with | nil => simp at hp | cons c r => exact ⟨c, r, rfl⟩
            have HCR := Lib.hid hcr
            clear hcr
            go_wp2_with fail
            go_loopg [11] 21 (fun gk i wr => ∃ k : Nat, k ≤ 21 ∧ gk = 21 - k ∧ i = .int .i64 k ∧ Hid (∀ j (hj : j < signsL.length), j < k → Lib.hasPrefix l signsL[j] = false) ∧ w2 = wr)
            case atStart => exact ⟨0, by omega, rfl, rfl, Lib.hid (fun j _ h => by omega), rfl⟩
            case round =>
              obtain ⟨j, hj2, rfl, rfl, hq, rfl⟩ := hrel
              by_cases hlt : j < 21
              · have hjs : j < signsL.length := hlt
                have hc := HS2.out.2 j hjs
                have hj21 : (j : Int) < 21 := by omega
                have HF := Lib.hid (fun hy => sign_found c r j hjs hy (by rw [← HCR.out]; exact hq.out))
                rw [← HCR.out] at HF
                have HNX : Hid (Lib.hasPrefix l signsL[j] = false → ∀ i (hi : i < signsL.length), i < j + 1 → Lib.hasPrefix l signsL[i] = false) := Lib.hid (by
                  intro h i hi hij
                  by_cases e : i = j
                  · subst e; exact h
                  · exact hq.out i hi (by omega))
                have HPO := Lib.hid (signsL_pos j hjs)
                generalize signsL[j] = t at *
                go_wp2_with fail
                refine (begins_any false l t _ hs).mono ?_
                rintro e w' ⟨rfl, rfl⟩
                rw [rBegins_false]
                cases hf : Lib.hasPrefix l t
                · have hn2 := Lib.hid (HNX.out hf)
                  go_wp2_with fail
                  go_roundg (21 - (j + 1))
                  case measure => omega
                  case rel => exact ⟨j + 1, by omega, rfl, by go_num, hn2, rfl⟩
                · obtain ⟨hs1, hs2⟩ := HF.out hf
                  have hts : 0 < pSign l := by rw [hs1]; exact HPO.out
                  rw [if_pos hts, hs2, hs1] at HT2
                  clear hs1 hs2 hts HF HNX
                  go_wp2_with fail
                  go_region
                  all_goals go_wp2_with fail
                  all_goals refine bodyPost_ret (v := .tuple #[.agg #[.int .i64 5, .string ⟨t.toArray⟩, .int .i64 0], .int .i64 t.length]) (by simp [results, Tryd.results67, go_sem, r0, r1, r2]) rfl ?_
                  all_goals exact nextPost_mk 5 t t.length (nextIs_of HT2.out) ((((HB2.out.setCell (p := ⟨w.heap.size, 0, none⟩) (Nat.le_refl _) _).setCell (p := ⟨w.heap.size, 1, none⟩) (Nat.le_refl _) _).setCell (p := ⟨w.heap.size, 2, none⟩) (Nat.le_refl _) _).drew)
              · have h0 : pSign l = 0 := by
                  have := sign_none c r (by rw [← HCR.out]; exact fun i hi => hq.out i hi (by have : signsL.length = 21 := rfl; omega))
                  rw [HCR.out]; exact this
                rw [h0, if_neg (by decide)] at HT2
                clear h0
                have hj21 : ¬ (j : Int) < 21 := by omega
                go_wp2_with fail
                refine bodyPost_ret (v := .tuple #[.agg #[.int .i64 0, .string ⟨#[]⟩, .int .i64 0], .int .i64 0]) (by simp [results, Tryd.results67, go_sem, r0, r1, r2]) rfl ?_
                exact nextPost_mk 0 [] 0 (nextIs_of HT2.out) (((HB2.out.setCell (p := ⟨w.heap.size, 0, none⟩) (Nat.le_refl _) _).setCell (p := ⟨w.heap.size, 1, none⟩) (Nat.le_refl _) _).setCell (p := ⟨w.heap.size, 2, none⟩) (Nat.le_refl _) _)
      · rw [h34] at e34
        rw [h34, if_pos rfl] at HT2
        go_wp2_with fail
        refine (rtext_any l _ hp hs).mono ?_
        rintro e w' ⟨rfl, rfl⟩
        go_wp2_with fail
        refine bodyPost_ret (v := .tuple #[.agg #[.int .i64 2, .string ⟨(pQuoted l).2.1.toArray⟩, .int .i64 0], .int .i64 (pQuoted l).2.2]) (by simp [results, Tryd.results67, go_sem]) rfl ?_
        refine nextPost_mk 2 (pQuoted l).2.1 (pQuoted l).2.2 ⟨by rw [HT2.out], fun h => ?_⟩ ((Below.refl _ w).alloc (Nat.le_refl _) _)
        rw [HT2.out]
        refine ⟨?_, rfl⟩
        unfold pQuoted at h ⊢
        cases hx : pText (l.drop 1) with
        | none => rw [hx] at h; exact absurd rfl h
        | some x => rfl
    · have hrw := rWord_yes l hw
      have hpos := wordy_pos l hw
      have hle := runP_le isWord l
      rw [hw, if_pos rfl] at HT2
      have HNM := Lib.hid (rIsName_take l hw)
      have hPW : pWord l = if pMark (l.take (runP isWord l)) then (4, l.take (runP isWord l), runP isWord l) else if dollars (l.take (runP isWord l)) = 0 then (3, l.take (runP isWord l), runP isWord l) else (0, [], 0) := rfl
      have HPW := Lib.hid (HT2.out.trans hPW)
      rw [hrw]
      clear hrw hPW HT2
      generalize runP isWord l = m at *
      have htl : (l.take m).length ≤ 1000000 := by rw [List.length_take]; omega
      go_wp2_with fail
      refine (rIsMark_any (l.take m) _ htl).mono ?_
      rintro e w' ⟨rfl, rfl⟩
      cases hm : pMark (l.take m)
      · rw [hm, if_neg (by decide)] at HPW
        rw [hm, Bool.not_false, Bool.true_and] at HNM
        go_wp2_with fail
        refine (rIsName_any (l.take m) _ htl).mono ?_
        rintro e w' ⟨rfl, rfl⟩
        cases hnm : rIsName (l.take m)
        · have hd : ¬ dollars (l.take m) = 0 := by intro h; rw [HNM.out, decide_eq_true h] at hnm; cases hnm
          rw [if_neg hd] at HPW
          clear hd HNM
          go_wp2_with fail
          refine bodyPost_ret (v := .tuple #[.agg #[.int .i64 0, .string ⟨#[]⟩, .int .i64 0], .int .i64 0]) (by simp [results, Tryd.results67, go_sem]) rfl ?_
          exact nextPost_mk 0 [] 0 (nextIs_of HPW.out) ((Below.refl _ w).alloc (Nat.le_refl _) _)
        · have hd : dollars (l.take m) = 0 := by rw [HNM.out] at hnm; exact of_decide_eq_true hnm
          rw [if_pos hd] at HPW
          clear hd HNM
          go_wp2_with fail
          refine bodyPost_ret (v := .tuple #[.agg #[.int .i64 3, .string ⟨(l.take m).toArray⟩, .int .i64 0], .int .i64 m]) (by simp [results, Tryd.results67, go_sem]) rfl ?_
          exact nextPost_mk 3 (l.take m) m (nextIs_of HPW.out) ((Below.refl _ w).alloc (Nat.le_refl _) _)
      · rw [hm, if_pos rfl] at HPW
        go_wp2_with fail
        refine bodyPost_ret (v := .tuple #[.agg #[.int .i64 4, .string ⟨(l.take m).toArray⟩, .int .i64 0], .int .i64 m]) (by simp [results, Tryd.results67, go_sem]) rfl ?_
        exact nextPost_mk 4 (l.take m) m (nextIs_of HPW.out) ((Below.refl _ w).alloc (Nat.le_refl _) _)
end Go.Proofs.YtcgdeoldgnjdeaaDoor
