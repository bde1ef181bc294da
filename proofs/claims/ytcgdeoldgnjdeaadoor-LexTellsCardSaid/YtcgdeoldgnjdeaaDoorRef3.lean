/-
  counterpaneref05.IsMark, word, IsName: what they return.
-/
import Derived.Test.YtcgdeoldgnjdeaaDoorRef2
import Derived.Test.YtcgdeoldgnjdeaaDoorPlainM
namespace Go.Proofs.YtcgdeoldgnjdeaaDoor
open Go.RowKit

set_option maxRecDepth 100000 in
set_option maxHeartbeats 1600000 in
theorem rIsMark_any (l : Bs) (w : World) (hs : l.length ≤ 1000000) :
    Calls Tryd.prog 80 #[.string ⟨l.toArray⟩] w fun e w' => e = .returned (.bool (pMark l)) ∧ w = w' := by
  rw [← rMark_eq]
  have hN : rMark l = rMark1 l (rAt l) (runP isLetter (l.drop (rAt l))) := rfl
  have HN := Lib.hid hN
  clear hN
  generalize rMark l = r at *
  have hA : rAt l = if atIs l 0 36 then 1 else 0 := rfl
  have HA := Lib.hid hA
  have hAl : rAt l ≤ l.length := by
    rw [hA]
    split
    · rename_i h; exact at_lt _ _ _ h
    · exact Nat.zero_le _
  clear hA
  go_enter Tryd.func80, Tryd.ntmps80
  go_upto_region 2 with fail
  go_cut [16] (fun v wx => v = .bool (atIs l 0 36) ∧ w = wx)
  case first =>
    by_cases hlt : 0 < l.length
    · have e := at_beq l 0 36 36 rfl hlt
      go_wp2
      all_goals go_meet
      all_goals exact ⟨rfl, rfl⟩
    · have e := at_out l 0 36 (by omega)
      go_wp2
      go_meet
      exact ⟨by rw [e], rfl⟩
  case rest =>
    obtain ⟨rfl, rfl⟩ := hcut
    go_upto_if 16 with fail
    go_cut [3, 4] (fun v3 v4 wx => ∃ sg : Int, v3 = .int .i64 (rAt l) ∧ v4 = .int .i64 sg ∧ (sg == 1) = atIs l 0 36 ∧ (sg == 0) = !atIs l 0 36 ∧ w = wx)
    case first =>
      cases h : atIs l 0 36
      · go_wp2
        go_meet
        exact ⟨0, by rw [HA.out, h]; rfl, rfl, by first | rfl | (rw [h]; rfl), by first | rfl | (rw [h]; rfl), rfl⟩
      · go_wp2
        go_meet
        exact ⟨1, by rw [HA.out, h]; rfl, rfl, by first | rfl | (rw [h]; rfl), by first | rfl | (rw [h]; rfl), rfl⟩
    case rest =>
      obtain ⟨sg, rfl, rfl, sg1, sg0, rfl⟩ := hcut
      clear HA
      generalize rAt l = a at *
      have hle := runP_le isLetter (l.drop a)
      rw [List.length_drop] at hle
      go_wp2_with fail
      refine (rrunLetter_any l a _ hs hAl).mono ?_
      rintro e w' ⟨rfl, rfl⟩
      unfold rMark1 at HN
      generalize runP isLetter (l.drop a) = n at *
      by_cases h3 : 3 < n
      · rw [if_pos h3] at HN
        go_wp2_with fail
        go_ret
        exact ⟨ret_bool (by rw [HN.out]), rfl⟩
      · rw [if_neg h3] at HN
        by_cases he : 0 < n ∧ a + n = l.length
        · rw [if_pos he] at HN
          have b1 : ((a : Int) + (n : Int) == (l.length : Int)) = true := by rw [beq_iff_eq]; omega
          have h0 := he.1
          clear he
          go_wp2_with fail
          go_ret
          exact ⟨ret_bool (by rw [HN.out]), rfl⟩
        · rw [if_neg he] at HN
          go_upto_region 9 with fail
          go_cut [36] (fun v wx => v = .bool false ∧ w = wx)
          case first =>
            by_cases h0 : 0 < n
            · have b1 : ((a : Int) + (n : Int) == (l.length : Int)) = false := by rw [beq_eq_false_iff_ne]; omega
              go_wp2_with fail
              go_meet
              exact ⟨rfl, rfl⟩
            · go_wp2_with fail
              go_meet
              exact ⟨rfl, rfl⟩
          case rest =>
            obtain ⟨rfl, rfl⟩ := hcut
            go_upto_region 11 with fail
            go_cut [52] (fun v wx => v = .bool (decide (0 < n) && atIs l (a + n) 36) ∧ w = wx)
            case first =>
              by_cases h0 : 0 < n
              · have d0 : decide (0 < n) = true := decide_eq_true h0
                have hlt : a + n < l.length := by omega
                have e36 := at_beq l (a + n) 36 36 rfl hlt
                cases h36 : atIs l (a + n) 36
                all_goals rw [h36] at e36
                all_goals go_wp2_with fail
                all_goals go_meet
                all_goals exact ⟨by rw [d0, h36]; rfl, rfl⟩
              · have d0 : decide (0 < n) = false := decide_eq_false h0
                go_wp2_with fail
                go_meet
                exact ⟨by rw [d0]; rfl, rfl⟩
            case rest =>
              obtain ⟨rfl, rfl⟩ := hcut
              go_upto_if 52 with fail
              go_cut [3] (fun v wx => ∃ k : Nat, v = .int .i64 k ∧ k ≤ l.length ∧ Hid (r = rMarkEnd l k) ∧ w = wx)
              case first =>
                cases h52 : (decide (0 < n) && atIs l (a + n) 36)
                · have hn2 : ¬ (0 < n ∧ atIs l (a + n) 36 = true) := by
                    intro h
                    rw [decide_eq_true h.1, h.2] at h52
                    cases h52
                  rw [if_neg hn2] at HN
                  by_cases h4 : n = 0 ∧ atIs l 0 36 = false
                  · rw [if_pos h4] at HN
                    rw [h4.2] at sg0
                    have b0 : ((n : Int) == 0) = true := by rw [beq_iff_eq]; omega
                    clear h4
                    go_wp2_with fail
                    go_ret
                    exact ⟨ret_bool (by rw [HN.out]), rfl⟩
                  · rw [if_neg h4] at HN
                    by_cases h5 : n = 0
                    · have b0 : ((n : Int) == 0) = true := by rw [beq_iff_eq]; omega
                      have h6 : atIs l 0 36 = true := by
                        cases hx : atIs l 0 36
                        · exact absurd ⟨h5, hx⟩ h4
                        · rfl
                      rw [h6] at sg0
                      clear h5 h4
                      go_wp2_with fail
                      go_meet
                      exact ⟨a + n, by go_num, by omega, HN, rfl⟩
                    · have b0 : ((n : Int) == 0) = false := by rw [beq_eq_false_iff_ne]; omega
                      clear h4
                      go_wp2_with fail
                      go_meet
                      exact ⟨a + n, by go_num, by omega, HN, rfl⟩
                · have hn2 : 0 < n ∧ atIs l (a + n) 36 = true := by simpa using h52
                  rw [if_pos hn2] at HN
                  have hlt := at_lt _ _ _ hn2.2
                  go_wp2_with fail
                  go_meet
                  exact ⟨a + n + 1, by go_num, by omega, HN, rfl⟩
              case rest =>
                obtain ⟨k, rfl, hk, HR, rfl⟩ := hcut
                clear HN
                have hm := runP_le isDigit (l.drop k)
                rw [List.length_drop] at hm
                go_wp2_with fail
                refine (rrunDigit_any l k _ hs hk).mono ?_
                rintro e w' ⟨rfl, rfl⟩
                unfold rMarkEnd at HR
                generalize runP isDigit (l.drop k) = m at *
                by_cases h1 : 1 ≤ m
                · by_cases h7 : m ≤ 7
                  · have hlt : k < l.length := by omega
                    have e48 := at_bne l k 48 48 rfl hlt
                    have HT : Hid (r = (!atIs l k 48 && decide (k + m = l.length))) := Lib.hid (by rw [HR.out, decide_eq_true h1, decide_eq_true h7]; rfl)
                    clear HR
                    cases h48 : atIs l k 48
                    all_goals rw [h48] at e48
                    all_goals go_wp2_with fail
                    all_goals go_ret
                    · exact ⟨ret_bool (by rw [HT.out, h48]; rw [Bool.eq_iff_iff]; simp; omega), rfl⟩
                    · exact ⟨ret_bool (by rw [HT.out, h48]; rfl), rfl⟩
                  · have HT : Hid (r = false) := Lib.hid (by rw [HR.out, decide_eq_false h7]; simp)
                    go_wp2_with fail
                    go_ret
                    exact ⟨ret_bool (by rw [HT.out]), rfl⟩
                · have HT : Hid (r = false) := Lib.hid (by rw [HR.out, decide_eq_false h1]; rfl)
                  go_wp2_with fail
                  go_ret
                  exact ⟨ret_bool (by rw [HT.out]), rfl⟩
end Go.Proofs.YtcgdeoldgnjdeaaDoor
