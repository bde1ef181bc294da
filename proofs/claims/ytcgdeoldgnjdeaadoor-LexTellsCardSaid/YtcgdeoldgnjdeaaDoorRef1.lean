/-
  counterpaneref05.digit, letter, run, IsNumber, number: what they return.
-/
import Derived.Test.YtcgdeoldgnjdeaaDoorPlainN
namespace Go.Proofs.YtcgdeoldgnjdeaaDoor
open Go.RowKit

set_option maxHeartbeats 400000 in
theorem rdigit_any (c : UInt8) (w : World) :
    Calls Tryd.prog 148 #[.int .u8 (c.toNat : Int)] w fun e w' => e = .returned (.bool (isDigit c)) ∧ w = w' := by
  go_enter Tryd.func148, Tryd.ntmps148
  go_wp2
  all_goals go_ret
  all_goals exact ⟨ret_bool (by unfold isDigit; rw [Bool.eq_iff_iff]; simp; omega), rfl⟩
set_option maxHeartbeats 400000 in
theorem rletter_any (c : UInt8) (w : World) :
    Calls Tryd.prog 149 #[.int .u8 (c.toNat : Int)] w fun e w' => e = .returned (.bool (isLetter c)) ∧ w = w' := by
  go_enter Tryd.func149, Tryd.ntmps149
  go_wp2
  all_goals go_ret
  all_goals exact ⟨ret_bool (by unfold isLetter; rw [Bool.eq_iff_iff]; simp; omega), rfl⟩
set_option maxHeartbeats 800000 in
theorem rrunDigit_any (l : Bs) (k : Nat) (w : World) (hs : l.length ≤ 1000000) (hk : k ≤ l.length) :
    Calls Tryd.prog 125 #[.string ⟨l.toArray⟩, .int .i64 k, .bool false] w fun e w' => e = .returned (.int .i64 (runP isDigit (l.drop k))) ∧ w = w' := by
  have hdl : (l.drop k).length = l.length - k := List.length_drop
  have hle := runP_le isDigit (l.drop k)
  rw [hdl] at hle
  have HDL := Lib.hid hdl
  clear hdl
  go_enter Tryd.func125, Tryd.ntmps125
  go_wp2
  go_loop [7] (fun i => ∃ j : Nat, k + j ≤ l.length ∧ i = .int .i64 j ∧ j ≤ runP isDigit (l.drop k)) (fun i => l.length - (intOf i).toNat)
  case atStart => exact ⟨0, hk, rfl, Nat.zero_le _⟩
  case round =>
    obtain ⟨j, hj, rfl, hr⟩ := hrel
    by_cases hlt : k + j < l.length
    · have hlt2 : j < (l.drop k).length := by rw [HDL.out]; omega
      have hg : (l.drop k)[j] = l[k + j] := List.getElem_drop ..
      cases hd : isDigit l[k + j]
      · have HQ := Lib.hid (runP_eq _ _ _ hr hlt2 (by rw [hg]; exact hd))
        clear hlt2 hg
        go_wp2_with (go_at_call 148; refine (rdigit_any _ _).mono ?_; rintro e w' ⟨rfl, rfl⟩)
        go_ret
        exact ⟨ret_int (by rw [HQ.out]), rfl⟩
      · have hq := runP_step _ _ _ hr hlt2 (by rw [hg]; exact hd)
        clear hlt2 hg
        go_wp2_with (go_at_call 148; refine (rdigit_any _ _).mono ?_; rintro e w' ⟨rfl, rfl⟩)
        go_round
        case rel => exact ⟨j + 1, by omega, by go_num, hq⟩
        case measure => simp [intOf]; omega
    · have hq : runP isDigit (l.drop k) = j := by omega
      have HQ := Lib.hid hq
      clear hq
      go_wp2
      go_ret
      exact ⟨ret_int (by rw [HQ.out]), rfl⟩
set_option maxHeartbeats 800000 in
theorem rrunLetter_any (l : Bs) (k : Nat) (w : World) (hs : l.length ≤ 1000000) (hk : k ≤ l.length) :
    Calls Tryd.prog 125 #[.string ⟨l.toArray⟩, .int .i64 k, .bool true] w fun e w' => e = .returned (.int .i64 (runP isLetter (l.drop k))) ∧ w = w' := by
  have hdl : (l.drop k).length = l.length - k := List.length_drop
  have hle := runP_le isLetter (l.drop k)
  rw [hdl] at hle
  have HDL := Lib.hid hdl
  clear hdl
  go_enter Tryd.func125, Tryd.ntmps125
  go_wp2
  go_loop [7] (fun i => ∃ j : Nat, k + j ≤ l.length ∧ i = .int .i64 j ∧ j ≤ runP isLetter (l.drop k)) (fun i => l.length - (intOf i).toNat)
  case atStart => exact ⟨0, hk, rfl, Nat.zero_le _⟩
  case round =>
    obtain ⟨j, hj, rfl, hr⟩ := hrel
    by_cases hlt : k + j < l.length
    · have hlt2 : j < (l.drop k).length := by rw [HDL.out]; omega
      have hg : (l.drop k)[j] = l[k + j] := List.getElem_drop ..
      cases hd : isLetter l[k + j]
      · have HQ := Lib.hid (runP_eq _ _ _ hr hlt2 (by rw [hg]; exact hd))
        clear hlt2 hg
        go_wp2_with (go_at_call 149; refine (rletter_any _ _).mono ?_; rintro e w' ⟨rfl, rfl⟩)
        go_ret
        exact ⟨ret_int (by rw [HQ.out]), rfl⟩
      · have hq := runP_step _ _ _ hr hlt2 (by rw [hg]; exact hd)
        clear hlt2 hg
        go_wp2_with (go_at_call 149; refine (rletter_any _ _).mono ?_; rintro e w' ⟨rfl, rfl⟩)
        go_round
        case rel => exact ⟨j + 1, by omega, by go_num, hq⟩
        case measure => simp [intOf]; omega
    · have hq : runP isLetter (l.drop k) = j := by omega
      have HQ := Lib.hid hq
      clear hq
      go_wp2
      go_ret
      exact ⟨ret_int (by rw [HQ.out]), rfl⟩

set_option maxRecDepth 100000 in
set_option maxHeartbeats 1600000 in
theorem isNumber_any (l : Bs) (w : World) (hs : l.length ≤ 1000000) :
    Calls Tryd.prog 78 #[.string ⟨l.toArray⟩] w fun e w' => e = .returned (.bool (rIsNumber l)) ∧ w = w' := by
  have hN : rIsNumber l = if atIs l (runP isDigit l) 46 then
    (if runP isDigit (l.drop (runP isDigit l + 1)) = 0 then false else rNumEnd l (runP isDigit l + runP isDigit (l.drop (runP isDigit l + 1))) (runP isDigit l + 1 + runP isDigit (l.drop (runP isDigit l + 1))))
    else rNumEnd l (runP isDigit l) (runP isDigit l) := rfl
  have HN := Lib.hid hN
  clear hN
  generalize rIsNumber l = r at *
  have ha := runP_le isDigit l
  go_enter Tryd.func78, Tryd.ntmps78
  go_wp2_with fail
  refine (rrunDigit_any l 0 _ hs (Nat.zero_le _)).mono ?_
  rintro e w' ⟨rfl, rfl⟩
  rw [List.drop_zero]
  generalize runP isDigit l = n at *
  go_upto_region 3 with fail
  go_cut [19] (fun v wx => v = .bool (atIs l n 46) ∧ w = wx)
  case first =>
    by_cases hlt : n < l.length
    · have e := at_beq l n 46 46 rfl hlt
      go_wp2
      all_goals go_meet
      all_goals exact ⟨rfl, rfl⟩
    · have e := at_out l n 46 (by omega)
      go_wp2
      go_meet
      exact ⟨by rw [e], rfl⟩
  case rest =>
    obtain ⟨rfl, rfl⟩ := hcut
    go_upto_if 19 with fail
    go_cut [3, 4, 5] (fun v3 v4 _ wx => ∃ n' k' : Nat, v3 = .int .i64 n' ∧ v4 = .int .i64 k' ∧ k' ≤ l.length ∧ n' ≤ l.length ∧ Hid (r = rNumEnd l n' k') ∧ w = wx)
    case first =>
      cases h46 : atIs l n 46
      · rw [h46, if_neg (by simp)] at HN
        go_wp2_with fail
        go_meet
        exact ⟨n, n, rfl, rfl, ha, ha, HN, rfl⟩
      · rw [h46, if_pos rfl] at HN
        have hlt := at_lt _ _ _ h46
        have hm := runP_le isDigit (l.drop (n + 1))
        rw [List.length_drop] at hm
        go_wp2_with fail
        refine (rrunDigit_any l (n + 1) _ hs hlt).mono ?_
        rintro e w' ⟨rfl, rfl⟩
        generalize runP isDigit (l.drop (n + 1)) = m at *
        by_cases h0 : m = 0
        · rw [if_pos h0] at HN
          subst h0
          go_wp2_with fail
          go_ret
          exact ⟨ret_bool (by rw [HN.out]), rfl⟩
        · rw [if_neg h0] at HN
          have b0 : ((m : Int) == 0) = false := by rw [beq_eq_false_iff_ne]; omega
          go_wp2_with fail
          go_meet
          exact ⟨n + m, n + 1 + m, by go_num, by go_num, by omega, by omega, HN, rfl⟩
    case rest =>
      obtain ⟨n', k', rfl, rfl, hk', hn', HR, rfl⟩ := hcut
      clear HN
      unfold rNumEnd at HR
      by_cases h0 : n' = 0
      · rw [if_pos h0] at HR
        subst h0
        go_wp2_with fail
        go_ret
        exact ⟨ret_bool (by rw [HR.out]), rfl⟩
      · rw [if_neg h0] at HR
        have b0 : ((n' : Int) == 0) = false := by rw [beq_eq_false_iff_ne]; omega
        go_upto_region 11 with fail
        go_cut [50] (fun v wx => v = .bool (atIs l (k') 69 || atIs l (k') 101) ∧ w = wx)
        case first =>
          by_cases hlt1 : k' < l.length
          · have e1 := at_beq l (k') 69 69 rfl hlt1
            have e2 := at_beq l (k') 101 101 rfl hlt1
            cases h1 : atIs l (k') 69 <;> cases h2 : atIs l (k') 101
            all_goals rw [h1] at e1; rw [h2] at e2
            all_goals go_wp2
            all_goals go_meet
            all_goals exact ⟨by rw [h1, h2]; rfl, rfl⟩
          · have h1 := at_out l (k') 69 (by omega)
            have h2 := at_out l (k') 101 (by omega)
            go_wp2
            go_meet
            exact ⟨by rw [h1, h2]; rfl, rfl⟩
        case rest =>
          obtain ⟨rfl, rfl⟩ := hcut
          cases hE : (atIs l k' 69 || atIs l k' 101)
          · rw [hE, if_neg (by decide)] at HR
            go_wp2_with fail
            go_ret
            exact ⟨ret_bool (by rw [HR.out]; rw [Bool.eq_iff_iff]; simp; omega), rfl⟩
          · rw [hE, if_pos rfl] at HR
            have hlt : k' < l.length := by rcases Bool.or_eq_true_iff.1 hE with h1 | h1 <;> exact at_lt _ _ _ h1
            have hpp : Hid (pPow l k' = if atIs l (k' + 1) 43 || atIs l (k' + 1) 45 then k' + 1 + 1 else k' + 1) := Lib.hid rfl
            have hp := pPow_le l k' hlt
            go_upto_region 13 with fail
            go_cut [68] (fun v wx => v = .bool (atIs l (k' + 1) 43 || atIs l (k' + 1) 45) ∧ w = wx)
            case first =>
              by_cases hlt1 : k' + 1 < l.length
              · have e1 := at_beq l (k' + 1) 43 43 rfl hlt1
                have e2 := at_beq l (k' + 1) 45 45 rfl hlt1
                cases h1 : atIs l (k' + 1) 43 <;> cases h2 : atIs l (k' + 1) 45
                all_goals rw [h1] at e1; rw [h2] at e2
                all_goals go_wp2
                all_goals go_meet
                all_goals exact ⟨by rw [h1, h2]; rfl, rfl⟩
              · have h1 := at_out l (k' + 1) 43 (by omega)
                have h2 := at_out l (k' + 1) 45 (by omega)
                go_wp2
                go_meet
                exact ⟨by rw [h1, h2]; rfl, rfl⟩
            case rest =>
              obtain ⟨rfl, rfl⟩ := hcut
              go_upto_if 68 with fail
              go_cut [4] (fun v wx => v = .int .i64 (pPow l k') ∧ w = wx)
              case first =>
                cases h1 : (atIs l (k' + 1) 43 || atIs l (k' + 1) 45)
                · go_wp2
                  go_meet
                  exact ⟨by rw [hpp.out, h1]; rfl, rfl⟩
                · have hlt2 : k' + 1 < l.length := by rcases Bool.or_eq_true_iff.1 h1 with h | h <;> exact at_lt _ _ _ h
                  go_wp2
                  go_meet
                  exact ⟨by rw [hpp.out, h1]; rfl, rfl⟩
              case rest =>
                obtain ⟨rfl, rfl⟩ := hcut
                clear hpp
                generalize pPow l k' = q at *
                have hm := runP_le isDigit (l.drop q)
                rw [List.length_drop] at hm
                go_wp2_with fail
                refine (rrunDigit_any l q _ hs hp).mono ?_
                rintro e w' ⟨rfl, rfl⟩
                generalize runP isDigit (l.drop q) = m at *
                by_cases hm0 : m = 0
                · rw [if_pos hm0] at HR
                  subst hm0
                  go_wp2_with fail
                  go_ret
                  exact ⟨ret_bool (by rw [HR.out]), rfl⟩
                · rw [if_neg hm0] at HR
                  have b1 : ((m : Int) == 0) = false := by rw [beq_eq_false_iff_ne]; omega
                  go_wp2_with fail
                  go_ret
                  exact ⟨ret_bool (by rw [HR.out]; rw [Bool.eq_iff_iff]; simp; omega), rfl⟩
end Go.Proofs.YtcgdeoldgnjdeaaDoor
