/-
  ref05: run, IsNumber, number, IsMark, word, IsName, Faults, Signs, begins; the next token (merged: Ref1 .. Ref5, PlainX).
-/
import Derived.Test.YtcgdeoldgnjdeaaDoorPlainM
import Derived.Test.YtcgdeoldgnjdeaaDoorLex8
import Derived.Test.YtcgdeoldgnjdeaaDoorPl1
namespace Go.Proofs.YtcgdeoldgnjdeaaDoor
open Go.RowKit

set_option maxHeartbeats 400000 in
theorem rdigit_any (c : UInt8) (w : World) :
    Calls Tryd.prog 148 #[.int .u8 (c.toNat : Int)] w fun e w' => e = .returned (.bool (isDigit c)) ∧ w = w' := by
  go_enter Tryd.func148, Tryd.ntmps148
  go_wp2
  all_goals go_ret
  all_goals exact ⟨ret_bool (by unfold isDigit; rw [Bool.eq_iff_iff]; simp; omega), rfl⟩
set_option maxHeartbeats 400000 in
theorem rletter_any (c : UInt8) (w : World) :
    Calls Tryd.prog 149 #[.int .u8 (c.toNat : Int)] w fun e w' => e = .returned (.bool (isLetter c)) ∧ w = w' := by
  go_enter Tryd.func149, Tryd.ntmps149
  go_wp2
  all_goals go_ret
  all_goals exact ⟨ret_bool (by unfold isLetter; rw [Bool.eq_iff_iff]; simp; omega), rfl⟩
set_option maxHeartbeats 800000 in
theorem rrunDigit_any (l : Bs) (k : Nat) (w : World) (hs : l.length ≤ 9223372036854775807) (hk : k ≤ l.length) :
    Calls Tryd.prog 125 #[.string ⟨l.toArray⟩, .int .i64 k, .bool false] w fun e w' => e = .returned (.int .i64 (runP isDigit (l.drop k))) ∧ w = w' := by
  have hdl : (l.drop k).length = l.length - k := List.length_drop
  have hle := runP_le isDigit (l.drop k)
  rw [hdl] at hle
  have HDL := Lib.hid hdl
  clear hdl
  go_enter Tryd.func125, Tryd.ntmps125
  go_wp2
  go_loop [7] (fun i => ∃ j : Nat, k + j ≤ l.length ∧ i = .int .i64 j ∧ j ≤ runP isDigit (l.drop k)) (fun i => l.length - (intOf i).toNat)
  case atStart => exact ⟨0, hk, rfl, Nat.zero_le _⟩
  case round =>
    obtain ⟨j, hj, rfl, hr⟩ := hrel
    by_cases hlt : k + j < l.length
    · have hlt2 : j < (l.drop k).length := by rw [HDL.out]; omega
      have hg : (l.drop k)[j] = l[k + j] := List.getElem_drop ..
      cases hd : isDigit l[k + j]
      · have HQ := Lib.hid (runP_eq _ _ _ hr hlt2 (by rw [hg]; exact hd))
        clear hlt2 hg
        go_wp2_with (go_at_call 148; refine (rdigit_any _ _).mono ?_; rintro e w' ⟨rfl, rfl⟩)
        go_ret
        exact ⟨ret_int (by rw [HQ.out]), rfl⟩
      · have hq := runP_step _ _ _ hr hlt2 (by rw [hg]; exact hd)
        clear hlt2 hg
        go_wp2_with (go_at_call 148; refine (rdigit_any _ _).mono ?_; rintro e w' ⟨rfl, rfl⟩)
        go_round
        case rel => exact ⟨j + 1, by omega, by go_num, hq⟩
        case measure => simp [intOf]; omega
    · have hq : runP isDigit (l.drop k) = j := by omega
      have HQ := Lib.hid hq
      clear hq
      go_wp2
      go_ret
      exact ⟨ret_int (by rw [HQ.out]), rfl⟩
set_option maxHeartbeats 800000 in
theorem rrunLetter_any (l : Bs) (k : Nat) (w : World) (hs : l.length ≤ 9223372036854775807) (hk : k ≤ l.length) :
    Calls Tryd.prog 125 #[.string ⟨l.toArray⟩, .int .i64 k, .bool true] w fun e w' => e = .returned (.int .i64 (runP isLetter (l.drop k))) ∧ w = w' := by
  have hdl : (l.drop k).length = l.length - k := List.length_drop
  have hle := runP_le isLetter (l.drop k)
  rw [hdl] at hle
  have HDL := Lib.hid hdl
  clear hdl
  go_enter Tryd.func125, Tryd.ntmps125
  go_wp2
  go_loop [7] (fun i => ∃ j : Nat, k + j ≤ l.length ∧ i = .int .i64 j ∧ j ≤ runP isLetter (l.drop k)) (fun i => l.length - (intOf i).toNat)
  case atStart => exact ⟨0, hk, rfl, Nat.zero_le _⟩
  case round =>
    obtain ⟨j, hj, rfl, hr⟩ := hrel
    by_cases hlt : k + j < l.length
    · have hlt2 : j < (l.drop k).length := by rw [HDL.out]; omega
      have hg : (l.drop k)[j] = l[k + j] := List.getElem_drop ..
      cases hd : isLetter l[k + j]
      · have HQ := Lib.hid (runP_eq _ _ _ hr hlt2 (by rw [hg]; exact hd))
        clear hlt2 hg
        go_wp2_with (go_at_call 149; refine (rletter_any _ _).mono ?_; rintro e w' ⟨rfl, rfl⟩)
        go_ret
        exact ⟨ret_int (by rw [HQ.out]), rfl⟩
      · have hq := runP_step _ _ _ hr hlt2 (by rw [hg]; exact hd)
        clear hlt2 hg
        go_wp2_with (go_at_call 149; refine (rletter_any _ _).mono ?_; rintro e w' ⟨rfl, rfl⟩)
        go_round
        case rel => exact ⟨j + 1, by omega, by go_num, hq⟩
        case measure => simp [intOf]; omega
    · have hq : runP isLetter (l.drop k) = j := by omega
      have HQ := Lib.hid hq
      clear hq
      go_wp2
      go_ret
      exact ⟨ret_int (by rw [HQ.out]), rfl⟩

set_option maxRecDepth 100000 in
set_option maxHeartbeats 1600000 in
theorem isNumber_any (l : Bs) (w : World) (hs : l.length ≤ 9223372036854775807) :
    Calls Tryd.prog 78 #[.string ⟨l.toArray⟩] w fun e w' => e = .returned (.bool (rIsNumber l)) ∧ w = w' := by
  have hN : rIsNumber l = if atIs l (runP isDigit l) 46 then
    (if runP isDigit (l.drop (runP isDigit l + 1)) = 0 then false else rNumEnd l (runP isDigit l + runP isDigit (l.drop (runP isDigit l + 1))) (runP isDigit l + 1 + runP isDigit (l.drop (runP isDigit l + 1))))
    else rNumEnd l (runP isDigit l) (runP isDigit l) := rfl
  have HN := Lib.hid hN
  clear hN
  generalize rIsNumber l = r at *
  have ha := runP_le isDigit l
  go_enter Tryd.func78, Tryd.ntmps78
  go_wp2_with fail
  refine (rrunDigit_any l 0 _ hs (Nat.zero_le _)).mono ?_
  rintro e w' ⟨rfl, rfl⟩
  rw [List.drop_zero]
  generalize runP isDigit l = n at *
  go_upto_region 3 with fail
  go_cut [19] (fun v wx => v = .bool (atIs l n 46) ∧ w = wx)
  case first =>
    by_cases hlt : n < l.length
    · have e := at_beq l n 46 46 rfl hlt
      go_wp2
      all_goals go_meet
      all_goals exact ⟨rfl, rfl⟩
    · have e := at_out l n 46 (by omega)
      go_wp2
      go_meet
      exact ⟨by rw [e], rfl⟩
  case rest =>
    obtain ⟨rfl, rfl⟩ := hcut
    go_upto_if 19 with fail
    go_cut [3, 4, 5] (fun v3 v4 _ wx => ∃ n' k' : Nat, v3 = .int .i64 n' ∧ v4 = .int .i64 k' ∧ k' ≤ l.length ∧ n' ≤ l.length ∧ Hid (r = rNumEnd l n' k') ∧ w = wx)
    case first =>
      cases h46 : atIs l n 46
      · rw [h46, if_neg (by simp)] at HN
        go_wp2_with fail
        go_meet
        exact ⟨n, n, rfl, rfl, ha, ha, HN, rfl⟩
      · rw [h46, if_pos rfl] at HN
        have hlt := at_lt _ _ _ h46
        have hm := runP_le isDigit (l.drop (n + 1))
        rw [List.length_drop] at hm
        go_wp2_with fail
        refine (rrunDigit_any l (n + 1) _ hs hlt).mono ?_
        rintro e w' ⟨rfl, rfl⟩
        generalize runP isDigit (l.drop (n + 1)) = m at *
        by_cases h0 : m = 0
        · rw [if_pos h0] at HN
          subst h0
          go_wp2_with fail
          go_ret
          exact ⟨ret_bool (by rw [HN.out]), rfl⟩
        · rw [if_neg h0] at HN
          have b0 : ((m : Int) == 0) = false := by rw [beq_eq_false_iff_ne]; omega
          go_wp2_with fail
          go_meet
          exact ⟨n + m, n + 1 + m, by go_num, by go_num, by omega, by omega, HN, rfl⟩
    case rest =>
      obtain ⟨n', k', rfl, rfl, hk', hn', HR, rfl⟩ := hcut
      clear HN
      unfold rNumEnd at HR
      by_cases h0 : n' = 0
      · rw [if_pos h0] at HR
        subst h0
        go_wp2_with fail
        go_ret
        exact ⟨ret_bool (by rw [HR.out]), rfl⟩
      · rw [if_neg h0] at HR
        have b0 : ((n' : Int) == 0) = false := by rw [beq_eq_false_iff_ne]; omega
        go_upto_region 11 with fail
        go_cut [50] (fun v wx => v = .bool (atIs l (k') 69 || atIs l (k') 101) ∧ w = wx)
        case first =>
          by_cases hlt1 : k' < l.length
          · have e1 := at_beq l (k') 69 69 rfl hlt1
            have e2 := at_beq l (k') 101 101 rfl hlt1
            cases h1 : atIs l (k') 69 <;> cases h2 : atIs l (k') 101
            all_goals rw [h1] at e1; rw [h2] at e2
            all_goals go_wp2
            all_goals go_meet
            all_goals exact ⟨by rw [h1, h2]; rfl, rfl⟩
          · have h1 := at_out l (k') 69 (by omega)
            have h2 := at_out l (k') 101 (by omega)
            go_wp2
            go_meet
            exact ⟨by rw [h1, h2]; rfl, rfl⟩
        case rest =>
          obtain ⟨rfl, rfl⟩ := hcut
          cases hE : (atIs l k' 69 || atIs l k' 101)
          · rw [hE, if_neg (by decide)] at HR
            go_wp2_with fail
            go_ret
            exact ⟨ret_bool (by rw [HR.out]; rw [Bool.eq_iff_iff]; simp; omega), rfl⟩
          · rw [hE, if_pos rfl] at HR
            have hlt : k' < l.length := by rcases Bool.or_eq_true_iff.1 hE with h1 | h1 <;> exact at_lt _ _ _ h1
            have hpp : Hid (pPow l k' = if atIs l (k' + 1) 43 || atIs l (k' + 1) 45 then k' + 1 + 1 else k' + 1) := Lib.hid rfl
            have hp := pPow_le l k' hlt
            go_upto_region 13 with fail
            go_cut [68] (fun v wx => v = .bool (atIs l (k' + 1) 43 || atIs l (k' + 1) 45) ∧ w = wx)
            case first =>
              by_cases hlt1 : k' + 1 < l.length
              · have e1 := at_beq l (k' + 1) 43 43 rfl hlt1
                have e2 := at_beq l (k' + 1) 45 45 rfl hlt1
                cases h1 : atIs l (k' + 1) 43 <;> cases h2 : atIs l (k' + 1) 45
                all_goals rw [h1] at e1; rw [h2] at e2
                all_goals go_wp2
                all_goals go_meet
                all_goals exact ⟨by rw [h1, h2]; rfl, rfl⟩
              · have h1 := at_out l (k' + 1) 43 (by omega)
                have h2 := at_out l (k' + 1) 45 (by omega)
                go_wp2
                go_meet
                exact ⟨by rw [h1, h2]; rfl, rfl⟩
            case rest =>
              obtain ⟨rfl, rfl⟩ := hcut
              go_upto_if 68 with fail
              go_cut [4] (fun v wx => v = .int .i64 (pPow l k') ∧ w = wx)
              case first =>
                cases h1 : (atIs l (k' + 1) 43 || atIs l (k' + 1) 45)
                · go_wp2
                  go_meet
                  exact ⟨by rw [hpp.out, h1]; rfl, rfl⟩
                · have hlt2 : k' + 1 < l.length := by rcases Bool.or_eq_true_iff.1 h1 with h | h <;> exact at_lt _ _ _ h
                  go_wp2
                  go_meet
                  exact ⟨by rw [hpp.out, h1]; rfl, rfl⟩
              case rest =>
                obtain ⟨rfl, rfl⟩ := hcut
                clear hpp
                generalize pPow l k' = q at *
                have hm := runP_le isDigit (l.drop q)
                rw [List.length_drop] at hm
                go_wp2_with fail
                refine (rrunDigit_any l q _ hs hp).mono ?_
                rintro e w' ⟨rfl, rfl⟩
                generalize runP isDigit (l.drop q) = m at *
                by_cases hm0 : m = 0
                · rw [if_pos hm0] at HR
                  subst hm0
                  go_wp2_with fail
                  go_ret
                  exact ⟨ret_bool (by rw [HR.out]), rfl⟩
                · rw [if_neg hm0] at HR
                  have b1 : ((m : Int) == 0) = false := by rw [beq_eq_false_iff_ne]; omega
                  go_wp2_with fail
                  go_ret
                  exact ⟨ret_bool (by rw [HR.out]; rw [Bool.eq_iff_iff]; simp; omega), rfl⟩
/-- how far the search for the longest number has come -/
def NInv (l : Bs) (best m : Nat) : Prop := best ≤ pNumber l ∧ (pNumber l ≤ m → best = pNumber l)
theorem NInv.start (l : Bs) : NInv l 0 0 := ⟨Nat.zero_le _, fun h => by omega⟩
theorem NInv.yes {l : Bs} {best m : Nat} (h : NInv l best m) (hm : m < l.length) (hy : rIsNumber (l.take (m + 1)) = true) : NInv l (m + 1) (m + 1) := by
  rw [rIsNumber_eq] at hy
  simp only [Bool.and_eq_true, decide_eq_true_eq, List.length_take] at hy
  have := number_take_le l (m + 1) (by omega)
  have := h.1
  exact ⟨by omega, fun h2 => by omega⟩
theorem NInv.no {l : Bs} {best m : Nat} (h : NInv l best m) (hm : m < l.length) (hy : rIsNumber (l.take (m + 1)) = false) : NInv l best (m + 1) := by
  refine ⟨h.1, fun h2 => ?_⟩
  rcases Nat.eq_or_lt_of_le h2 with h3 | h3
  · exfalso
    rw [rIsNumber_eq, ← h3, number_take_self, List.length_take] at hy
    have := pNumber_le l
    rw [show min (pNumber l) l.length = pNumber l by omega] at hy
    simp at hy
    omega
  · exact h.2 (by omega)
theorem NInv.stop {l : Bs} {best m : Nat} (h : NInv l best m) (hm : m < l.length) (hc : isNumC l[m] = false) : best = pNumber l := by
  apply h.2
  rcases Nat.lt_or_ge m (pNumber l) with h1 | h1
  · rw [number_chars l m h1 hm] at hc; cases hc
  · exact h1
theorem NInv.done {l : Bs} {best m : Nat} (h : NInv l best m) (hm : ¬ m < l.length) : best = pNumber l := h.2 (by have := pNumber_le l; omega)

set_option maxRecDepth 100000 in
set_option maxHeartbeats 1600000 in
theorem rnumber_any (l : Bs) (w : World) (hs : l.length ≤ 1000000) :
    Calls Tryd.prog 113 #[.string ⟨l.toArray⟩] w fun e w' => e = .returned (.int .i64 (pNumber l)) ∧ w = w' := by
  go_enter Tryd.func113, Tryd.ntmps113
  go_wp2_with fail
  go_loopg [3, 4] (l.length) (fun g b i wr => ∃ m best : Nat, m ≤ l.length ∧ g = l.length - m ∧ b = .int .i64 best ∧ i = .int .i64 ((m : Int) + 1) ∧ Hid (NInv l best m) ∧ w = wr)
  case atStart => exact ⟨0, 0, Nat.zero_le _, rfl, rfl, rfl, Lib.hid (NInv.start l), rfl⟩
  case round =>
    obtain ⟨m, best, hm, rfl, rfl, rfl, hq, rfl⟩ := hrel
    by_cases hlt : m < l.length
    · have hlt' : (m : Int) + 1 ≤ (l.length : Int) := by omega
      go_upto_region 6 with fail
      go_cut [38] (fun v wx => v = .bool (!isNumC l[m]) ∧ w = wx)
      case first =>
        have hcc : isNumC l[m] = (isDigit l[m] || l[m] == 46 || l[m] == 101 || l[m] == 69 || l[m] == 43 || l[m] == 45) := rfl
        have bn : ∀ d : UInt8, ∀ n : Int, (d.toNat : Int) = n → ((l[m].toNat : Int) != n) = !(l[m] == d) := by
          intro d n hn
          subst hn
          rw [Bool.eq_iff_iff]
          simp only [bne_iff_ne, ne_eq, Bool.not_eq_true', beq_eq_false_iff_ne]
          constructor
          · intro h e; apply h; rw [e]
          · intro h e; exact h (u8_eq (by omega))
        have e1 := bn 46 46 rfl
        have e2 := bn 101 101 rfl
        have e3 := bn 69 69 rfl
        have e4 := bn 43 43 rfl
        have e5 := bn 45 45 rfl
        have HC := Lib.hid hcc
        clear bn hcc
        cases h1 : isDigit l[m]
        · cases h2 : (l[m] == 46)
          · cases h3 : (l[m] == 101)
            · cases h4 : (l[m] == 69)
              · cases h5 : (l[m] == 43)
                · cases h6 : (l[m] == 45)
                  all_goals rw [h2] at e1; rw [h3] at e2; rw [h4] at e3; rw [h5] at e4; rw [h6] at e5
                  all_goals go_wp2_with (go_at_call 148; refine (rdigit_any _ _).mono ?_; rintro e w' ⟨rfl, rfl⟩)
                  all_goals go_meet
                  all_goals exact ⟨by rw [HC.out, h1, h2, h3, h4, h5, h6]; rfl, rfl⟩
                · rw [h2] at e1; rw [h3] at e2; rw [h4] at e3; rw [h5] at e4
                  go_wp2_with (go_at_call 148; refine (rdigit_any _ _).mono ?_; rintro e w' ⟨rfl, rfl⟩)
                  go_meet
                  exact ⟨by rw [HC.out, h1, h2, h3, h4, h5]; rfl, rfl⟩
              · rw [h2] at e1; rw [h3] at e2; rw [h4] at e3
                go_wp2_with (go_at_call 148; refine (rdigit_any _ _).mono ?_; rintro e w' ⟨rfl, rfl⟩)
                go_meet
                exact ⟨by rw [HC.out, h1, h2, h3, h4]; rfl, rfl⟩
            · rw [h2] at e1; rw [h3] at e2
              go_wp2_with (go_at_call 148; refine (rdigit_any _ _).mono ?_; rintro e w' ⟨rfl, rfl⟩)
              go_meet
              exact ⟨by rw [HC.out, h1, h2, h3]; rfl, rfl⟩
          · rw [h2] at e1
            go_wp2_with (go_at_call 148; refine (rdigit_any _ _).mono ?_; rintro e w' ⟨rfl, rfl⟩)
            go_meet
            exact ⟨by rw [HC.out, h1, h2]; rfl, rfl⟩
        · go_wp2_with (go_at_call 148; refine (rdigit_any _ _).mono ?_; rintro e w' ⟨rfl, rfl⟩)
          go_meet
          exact ⟨by rw [HC.out, h1]; rfl, rfl⟩
      case rest =>
        obtain ⟨rfl, rfl⟩ := hcut
        cases hc : isNumC l[m]
        · have hd := Lib.hid (hq.out.stop hlt hc)
          go_wp2_with fail
          go_ret
          exact ⟨ret_int (by rw [hd.out]), rfl⟩
        · go_wp2_with fail
          refine (isNumber_any (l.take (m + 1)) _ (by rw [List.length_take]; omega)).mono ?_
          rintro e w' ⟨rfl, rfl⟩
          cases hy : rIsNumber (l.take (m + 1))
          · have hd := Lib.hid (hq.out.no hlt hy)
            go_wp2_with fail
            go_roundg (l.length - (m + 1))
            case measure => omega
            case rel => exact ⟨m + 1, best, by omega, rfl, rfl, by go_num, hd, rfl⟩
          · have hd := Lib.hid (hq.out.yes hlt hy)
            go_wp2_with fail
            go_roundg (l.length - (m + 1))
            case measure => omega
            case rel => exact ⟨m + 1, m + 1, by omega, rfl, by go_num, by go_num, hd, rfl⟩
    · have hd := Lib.hid (hq.out.done hlt)
      have hge : (l.length : Int) < (m : Int) + 1 := by omega
      go_wp2_with fail
      go_ret
      exact ⟨ret_int (by rw [hd.out]), rfl⟩
set_option maxRecDepth 100000 in
set_option maxHeartbeats 1600000 in
theorem rIsMark_any (l : Bs) (w : World) (hs : l.length ≤ 9223372036854775807) :
    Calls Tryd.prog 80 #[.string ⟨l.toArray⟩] w fun e w' => e = .returned (.bool (pMark l)) ∧ w = w' := by
  rw [← rMark_eq]
  have hN : rMark l = rMark1 l (rAt l) (runP isLetter (l.drop (rAt l))) := rfl
  have HN := Lib.hid hN
  clear hN
  generalize rMark l = r at *
  have hA : rAt l = if atIs l 0 36 then 1 else 0 := rfl
  have HA := Lib.hid hA
  have hAl : rAt l ≤ l.length := by
    rw [hA]
    split
    · rename_i h; exact at_lt _ _ _ h
    · exact Nat.zero_le _
  clear hA
  go_enter Tryd.func80, Tryd.ntmps80
  go_upto_region 2 with fail
  go_cut [16] (fun v wx => v = .bool (atIs l 0 36) ∧ w = wx)
  case first =>
    by_cases hlt : 0 < l.length
    · have e := at_beq l 0 36 36 rfl hlt
      go_wp2
      all_goals go_meet
      all_goals exact ⟨rfl, rfl⟩
    · have e := at_out l 0 36 (by omega)
      go_wp2
      go_meet
      exact ⟨by rw [e], rfl⟩
  case rest =>
    obtain ⟨rfl, rfl⟩ := hcut
    go_upto_if 16 with fail
    go_cut [3, 4] (fun v3 v4 wx => ∃ sg : Int, v3 = .int .i64 (rAt l) ∧ v4 = .int .i64 sg ∧ (sg == 1) = atIs l 0 36 ∧ (sg == 0) = !atIs l 0 36 ∧ w = wx)
    case first =>
      cases h : atIs l 0 36
      · go_wp2
        go_meet
        exact ⟨0, by rw [HA.out, h]; rfl, rfl, by first | rfl | (rw [h]; rfl), by first | rfl | (rw [h]; rfl), rfl⟩
      · go_wp2
        go_meet
        exact ⟨1, by rw [HA.out, h]; rfl, rfl, by first | rfl | (rw [h]; rfl), by first | rfl | (rw [h]; rfl), rfl⟩
    case rest =>
      obtain ⟨sg, rfl, rfl, sg1, sg0, rfl⟩ := hcut
      clear HA
      generalize rAt l = a at *
      have hle := runP_le isLetter (l.drop a)
      rw [List.length_drop] at hle
      go_wp2_with fail
      refine (rrunLetter_any l a _ hs hAl).mono ?_
      rintro e w' ⟨rfl, rfl⟩
      unfold rMark1 at HN
      generalize runP isLetter (l.drop a) = n at *
      by_cases h3 : 3 < n
      · rw [if_pos h3] at HN
        go_wp2_with fail
        go_ret
        exact ⟨ret_bool (by rw [HN.out]), rfl⟩
      · rw [if_neg h3] at HN
        by_cases he : 0 < n ∧ a + n = l.length
        · rw [if_pos he] at HN
          have b1 : ((a : Int) + (n : Int) == (l.length : Int)) = true := by rw [beq_iff_eq]; omega
          have h0 := he.1
          clear he
          go_wp2_with fail
          go_ret
          exact ⟨ret_bool (by rw [HN.out]), rfl⟩
        · rw [if_neg he] at HN
          go_upto_region 9 with fail
          go_cut [36] (fun v wx => v = .bool false ∧ w = wx)
          case first =>
            by_cases h0 : 0 < n
            · have b1 : ((a : Int) + (n : Int) == (l.length : Int)) = false := by rw [beq_eq_false_iff_ne]; omega
              go_wp2_with fail
              go_meet
              exact ⟨rfl, rfl⟩
            · go_wp2_with fail
              go_meet
              exact ⟨rfl, rfl⟩
          case rest =>
            obtain ⟨rfl, rfl⟩ := hcut
            go_upto_region 11 with fail
            go_cut [52] (fun v wx => v = .bool (decide (0 < n) && atIs l (a + n) 36) ∧ w = wx)
            case first =>
              by_cases h0 : 0 < n
              · have d0 : decide (0 < n) = true := decide_eq_true h0
                have hlt : a + n < l.length := by omega
                have e36 := at_beq l (a + n) 36 36 rfl hlt
                cases h36 : atIs l (a + n) 36
                all_goals rw [h36] at e36
                all_goals go_wp2_with fail
                all_goals go_meet
                all_goals exact ⟨by rw [d0, h36]; rfl, rfl⟩
              · have d0 : decide (0 < n) = false := decide_eq_false h0
                go_wp2_with fail
                go_meet
                exact ⟨by rw [d0]; rfl, rfl⟩
            case rest =>
              obtain ⟨rfl, rfl⟩ := hcut
              go_upto_if 52 with fail
              go_cut [3] (fun v wx => ∃ k : Nat, v = .int .i64 k ∧ k ≤ l.length ∧ Hid (r = rMarkEnd l k) ∧ w = wx)
              case first =>
                cases h52 : (decide (0 < n) && atIs l (a + n) 36)
                · have hn2 : ¬ (0 < n ∧ atIs l (a + n) 36 = true) := by
                    intro h
                    rw [decide_eq_true h.1, h.2] at h52
                    cases h52
                  rw [if_neg hn2] at HN
                  by_cases h4 : n = 0 ∧ atIs l 0 36 = false
                  · rw [if_pos h4] at HN
                    rw [h4.2] at sg0
                    have b0 : ((n : Int) == 0) = true := by rw [beq_iff_eq]; omega
                    clear h4
                    go_wp2_with fail
                    go_ret
                    exact ⟨ret_bool (by rw [HN.out]), rfl⟩
                  · rw [if_neg h4] at HN
                    by_cases h5 : n = 0
                    · have b0 : ((n : Int) == 0) = true := by rw [beq_iff_eq]; omega
                      have h6 : atIs l 0 36 = true := by
                        cases hx : atIs l 0 36
                        · exact absurd ⟨h5, hx⟩ h4
                        · rfl
                      rw [h6] at sg0
                      clear h5 h4
                      go_wp2_with fail
                      go_meet
                      exact ⟨a + n, by go_num, by omega, HN, rfl⟩
                    · have b0 : ((n : Int) == 0) = false := by rw [beq_eq_false_iff_ne]; omega
                      clear h4
                      go_wp2_with fail
                      go_meet
                      exact ⟨a + n, by go_num, by omega, HN, rfl⟩
                · have hn2 : 0 < n ∧ atIs l (a + n) 36 = true := by simpa using h52
                  rw [if_pos hn2] at HN
                  have hlt := at_lt _ _ _ hn2.2
                  go_wp2_with fail
                  go_meet
                  exact ⟨a + n + 1, by go_num, by omega, HN, rfl⟩
              case rest =>
                obtain ⟨k, rfl, hk, HR, rfl⟩ := hcut
                clear HN
                have hm := runP_le isDigit (l.drop k)
                rw [List.length_drop] at hm
                go_wp2_with fail
                refine (rrunDigit_any l k _ hs hk).mono ?_
                rintro e w' ⟨rfl, rfl⟩
                unfold rMarkEnd at HR
                generalize runP isDigit (l.drop k) = m at *
                by_cases h1 : 1 ≤ m
                · by_cases h7 : m ≤ 7
                  · have hlt : k < l.length := by omega
                    have e48 := at_bne l k 48 48 rfl hlt
                    have HT : Hid (r = (!atIs l k 48 && decide (k + m = l.length))) := Lib.hid (by rw [HR.out, decide_eq_true h1, decide_eq_true h7]; rfl)
                    clear HR
                    cases h48 : atIs l k 48
                    all_goals rw [h48] at e48
                    all_goals go_wp2_with fail
                    all_goals go_ret
                    · exact ⟨ret_bool (by rw [HT.out, h48]; rw [Bool.eq_iff_iff]; simp; omega), rfl⟩
                    · exact ⟨ret_bool (by rw [HT.out, h48]; rfl), rfl⟩
                  · have HT : Hid (r = false) := Lib.hid (by rw [HR.out, decide_eq_false h7]; simp)
                    go_wp2_with fail
                    go_ret
                    exact ⟨ret_bool (by rw [HT.out]), rfl⟩
                · have HT : Hid (r = false) := Lib.hid (by rw [HR.out, decide_eq_false h1]; rfl)
                  go_wp2_with fail
                  go_ret
                  exact ⟨ret_bool (by rw [HT.out]), rfl⟩
/-- how long the word is -/
def rWord (l : Bs) : Nat := if letter0 l || atIs l 0 95 || atIs l 0 36 then runP isWord l else 0
theorem u8_beq (c d : UInt8) (n : Int) (hn : (d.toNat : Int) = n) : ((c.toNat : Int) == n) = (c == d) := by
  subst hn
  rw [Bool.eq_iff_iff, beq_iff_eq, beq_iff_eq]
  constructor
  · intro h; exact u8_eq (by omega)
  · intro h; rw [h]
theorem u8_bne (c d : UInt8) (n : Int) (hn : (d.toNat : Int) = n) : ((c.toNat : Int) != n) = !(c == d) := by
  rw [← u8_beq c d n hn]; rfl
set_option maxRecDepth 100000 in
set_option maxHeartbeats 1600000 in
theorem rword_any (l : Bs) (w : World) (hs : l.length ≤ 9223372036854775807) :
    Calls Tryd.prog 114 #[.string ⟨l.toArray⟩] w fun e w' => e = .returned (.int .i64 (rWord l)) ∧ w = w' := by
  have hN : rWord l = if letter0 l || atIs l 0 95 || atIs l 0 36 then runP isWord l else 0 := rfl
  have HN := Lib.hid hN
  clear hN
  generalize rWord l = r at *
  go_enter Tryd.func114, Tryd.ntmps114
  go_upto_region 1 with fail
  go_cut [21] (fun v wx => v = .bool (!(letter0 l || atIs l 0 95 || atIs l 0 36)) ∧ w = wx)
  case first =>
    by_cases hp : 0 < l.length
    · have hem : l.isEmpty = false := by cases l with | nil => simp at hp | cons c l => rfl
      have hl0 := letter0_eq l hp
      have e95 := at_bne l 0 95 95 rfl hp
      have e36 := at_bne l 0 36 36 rfl hp
      go_wp2_with fail
      refine (rletter_any _ _).mono ?_
      rintro e w' ⟨rfl, rfl⟩
      rw [hl0]
      clear hl0
      cases h1 : letter0 l <;> cases h2 : atIs l 0 95 <;> cases h3 : atIs l 0 36
      all_goals rw [h2] at e95; rw [h3] at e36
      all_goals go_wp2_with fail
      all_goals go_meet
      all_goals exact ⟨by first | rfl | (rw [h1, h2, h3]; rfl), rfl⟩
    · obtain rfl : l = [] := List.eq_nil_of_length_eq_zero (by omega)
      go_wp2_with fail
      go_meet
      exact ⟨rfl, rfl⟩
  case rest =>
    obtain ⟨rfl, rfl⟩ := hcut
    cases hw : (letter0 l || atIs l 0 95 || atIs l 0 36)
    · rw [hw] at HN
      go_wp2_with fail
      go_ret
      exact ⟨ret_int (by rw [HN.out]; rfl), rfl⟩
    · rw [hw, if_pos rfl] at HN
      go_wp2_with fail
      go_loopg [3] (l.length) (fun g i wr => ∃ k : Nat, k ≤ l.length ∧ g = l.length - k ∧ i = .int .i64 k ∧ k ≤ runP isWord l ∧ w = wr)
      case atStart => exact ⟨0, Nat.zero_le _, rfl, rfl, Nat.zero_le _, rfl⟩
      case round =>
        obtain ⟨k, hk, rfl, rfl, hr, rfl⟩ := hrel
        by_cases hlt : k < l.length
        · go_upto_region 4 with fail
          go_cut [55] (fun v wx => v = .bool (isWord l[k]) ∧ w = wx)
          case first =>
            have e1 := u8_beq l[k] 95 95 rfl
            have e2 := u8_beq l[k] 46 46 rfl
            have e3 := u8_beq l[k] 36 36 rfl
            have hcc : isWord l[k] = (isLetter l[k] || isDigit l[k] || l[k] == 95 || l[k] == 46 || l[k] == 36) := rfl
            have HC := Lib.hid hcc
            clear hcc
            cases h1 : isLetter l[k]
            · cases h2 : isDigit l[k]
              · cases h3 : (l[k] == 95)
                · cases h4 : (l[k] == 46)
                  · cases h5 : (l[k] == 36)
                    all_goals rw [h3] at e1; rw [h4] at e2; rw [h5] at e3
                    all_goals go_wp2_with (first | (go_at_call 149; refine (rletter_any _ _).mono ?_; rintro e w' ⟨rfl, rfl⟩) | (go_at_call 148; refine (rdigit_any _ _).mono ?_; rintro e w' ⟨rfl, rfl⟩))
                    all_goals go_meet
                    all_goals exact ⟨by rw [HC.out, h1, h2, h3, h4, h5]; rfl, rfl⟩
                  · rw [h3] at e1; rw [h4] at e2
                    go_wp2_with (first | (go_at_call 149; refine (rletter_any _ _).mono ?_; rintro e w' ⟨rfl, rfl⟩) | (go_at_call 148; refine (rdigit_any _ _).mono ?_; rintro e w' ⟨rfl, rfl⟩))
                    go_meet
                    exact ⟨by rw [HC.out, h1, h2, h3, h4]; rfl, rfl⟩
                · rw [h3] at e1
                  go_wp2_with (first | (go_at_call 149; refine (rletter_any _ _).mono ?_; rintro e w' ⟨rfl, rfl⟩) | (go_at_call 148; refine (rdigit_any _ _).mono ?_; rintro e w' ⟨rfl, rfl⟩))
                  go_meet
                  exact ⟨by rw [HC.out, h1, h2, h3]; rfl, rfl⟩
              · go_wp2_with (first | (go_at_call 149; refine (rletter_any _ _).mono ?_; rintro e w' ⟨rfl, rfl⟩) | (go_at_call 148; refine (rdigit_any _ _).mono ?_; rintro e w' ⟨rfl, rfl⟩))
                go_meet
                exact ⟨by rw [HC.out, h1, h2]; rfl, rfl⟩
            · go_wp2_with (first | (go_at_call 149; refine (rletter_any _ _).mono ?_; rintro e w' ⟨rfl, rfl⟩) | (go_at_call 148; refine (rdigit_any _ _).mono ?_; rintro e w' ⟨rfl, rfl⟩))
              go_meet
              exact ⟨by rw [HC.out, h1]; rfl, rfl⟩
          case rest =>
            obtain ⟨rfl, rfl⟩ := hcut
            cases hd : isWord l[k]
            · have HQ := Lib.hid (runP_eq _ _ _ hr hlt hd)
              go_wp2_with fail
              go_ret
              exact ⟨ret_int (by rw [HN.out, HQ.out]), rfl⟩
            · have hq := runP_step _ _ _ hr hlt hd
              go_wp2_with fail
              go_roundg (l.length - (k + 1))
              case measure => omega
              case rel => exact ⟨k + 1, by omega, rfl, by go_num, hq, rfl⟩
        · have hq : runP isWord l = k := by have := runP_le isWord l; omega
          have HQ := Lib.hid hq
          clear hq
          go_wp2
          go_ret
          exact ⟨ret_int (by rw [HN.out, HQ.out]), rfl⟩
def rIsName (l : Bs) : Bool := decide (rWord l = l.length) && decide (0 < l.length) && !pMark l && decide (dollars l = 0)
set_option maxRecDepth 100000 in
set_option maxHeartbeats 1600000 in
theorem rIsName_any (l : Bs) (w : World) (hs : l.length ≤ 9223372036854775807) :
    Calls Tryd.prog 79 #[.string ⟨l.toArray⟩] w fun e w' => e = .returned (.bool (rIsName l)) ∧ w = w' := by
  have hN : rIsName l = (decide (rWord l = l.length) && decide (0 < l.length) && !pMark l && decide (dollars l = 0)) := rfl
  have HN := Lib.hid hN
  clear hN
  generalize rIsName l = r at *
  go_enter Tryd.func79, Tryd.ntmps79
  go_wp2_with fail
  refine (rword_any l _ hs).mono ?_
  rintro e w' ⟨rfl, rfl⟩
  generalize rWord l = n at *
  by_cases h1 : n = l.length
  · have b1 : ((n : Int) != (l.length : Int)) = false := by rw [bne_eq_false_iff_eq]; omega
    by_cases h2 : 0 < l.length
    · have b2 : ((l.length : Int) == 0) = false := by rw [beq_eq_false_iff_ne]; omega
      have HT : Hid (r = (!pMark l && decide (dollars l = 0))) := Lib.hid (by rw [HN.out, decide_eq_true h1, decide_eq_true h2]; rfl)
      clear HN h1
      go_wp2_with fail
      refine (rIsMark_any l _ hs).mono ?_
      rintro e w' ⟨rfl, rfl⟩
      cases hm : pMark l
      · rw [hm] at HT
        go_wp2_with fail
        go_loop [3] (fun i => ∃ k : Nat, k ≤ l.length ∧ i = .int .i64 k ∧ Hid (dollars (l.take k) = 0)) (fun i => l.length - (intOf i).toNat)
        case atStart => exact ⟨0, Nat.zero_le _, rfl, Lib.hid rfl⟩
        case round =>
          obtain ⟨k, hk, rfl, hq⟩ := hrel
          by_cases hlt : k < l.length
          · have e36 := u8_beq l[k] 36 36 rfl
            have hsn : dollars (l.take (k + 1)) = dollars (l.take k) + if l[k] == 36 then 1 else 0 := by rw [List.take_succ_eq_append_getElem hlt, dollars_snoc]
            have HSN := Lib.hid hsn
            clear hsn
            cases h36 : (l[k] == 36)
            · rw [h36] at e36
              have hq2 : Hid (dollars (l.take (k + 1)) = 0) := Lib.hid (by rw [HSN.out, h36, hq.out]; rfl)
              go_wp2_with fail
              go_round
              case rel => exact ⟨k + 1, by omega, by go_num, hq2⟩
              case measure => simp [intOf]; omega
            · rw [h36] at e36
              have hd : Hid (decide (dollars l = 0) = false) := Lib.hid (by
                rw [decide_eq_false_iff_not]
                intro h0
                have h3 : (36 : UInt8) ∈ l := by rw [← eq_of_beq h36]; exact List.getElem_mem hlt
                have := List.count_pos_iff.2 h3
                unfold dollars at h0
                omega)
              go_wp2_with fail
              go_ret
              exact ⟨ret_bool (by rw [HT.out, hd.out]; rfl), rfl⟩
          · have hd : Hid (decide (dollars l = 0) = true) := Lib.hid (by rw [decide_eq_true_eq]; rw [List.take_of_length_le (by omega)] at hq; exact hq.out)
            go_wp2_with fail
            go_ret
            exact ⟨ret_bool (by rw [HT.out, hd.out]; rfl), rfl⟩
      · rw [hm] at HT
        go_wp2_with fail
        go_ret
        exact ⟨ret_bool (by rw [HT.out]; rfl), rfl⟩
    · have b2 : ((l.length : Int) == 0) = true := by rw [beq_iff_eq]; omega
      have HT : Hid (r = false) := Lib.hid (by rw [HN.out, decide_eq_false h2]; simp)
      clear HN h1
      go_wp2_with fail
      go_ret
      exact ⟨ret_bool (by rw [HT.out]), rfl⟩
  · have b1 : ((n : Int) != (l.length : Int)) = true := by rw [bne_iff_ne]; omega
    have HT : Hid (r = false) := Lib.hid (by rw [HN.out, decide_eq_false h1]; rfl)
    clear HN
    go_wp2_with fail
    go_ret
    exact ⟨ret_bool (by rw [HT.out]), rfl⟩

/-- a row of texts in memory -/
def StrIn (w : World) (g : Nat) (ts : List Bs) : Prop := g < w.heap.size ∧ ∀ i (h : i < ts.length), w.cell? ⟨g, i, none⟩ = some (.string ⟨ts[i].toArray⟩)
theorem StrIn.next {w w' : World} {g : Nat} {ts : List Bs} (h : StrIn w g ts) (hb : Below w.heap.size w w') : StrIn w' g ts :=
  ⟨by have := h.1; have := hb.size; omega, fun i hi => (hb.cell (p := ⟨g, i, none⟩) h.1).trans (h.2 i hi)⟩
theorem strIn_alloc (w : World) (ts : List Bs) (t : TypeId) : StrIn (w.alloc (.cells (ts.map fun s => Value.string ⟨s.toArray⟩).toArray t)) w.heap.size ts :=
  ⟨by simp, fun i hi => by rw [World.cell?_alloc_at _ _ _ _ rfl]; simp [hi]⟩
def faultsL : List Bs := (List.range 10).map faultB
def signsL : List Bs := [[60, 62], [60, 61], [62, 61], [43], [45], [42], [47], [94], [38], [61], [60], [62], [37], [40], [41], [123], [125], [44], [59], [58], [35]]
set_option maxHeartbeats 400000 in
theorem faults_any (w : World) :
    Calls Tryd.prog 83 #[] w fun e w' => ∃ g, e = .returned (.slice (some ⟨g, 0, none⟩) 10 10) ∧ w.heap.size ≤ g ∧ StrIn w' g faultsL ∧ Below w.heap.size w w' := by
  go_enter Tryd.func83, Tryd.ntmps83
  go_wp2
  go_ret
  exact ⟨w.heap.size, rfl, Nat.le_refl _, strIn_alloc w faultsL 9, (Below.refl _ w).alloc (Nat.le_refl _) _⟩
set_option maxHeartbeats 400000 in
theorem signs_any (w : World) :
    Calls Tryd.prog 82 #[] w fun e w' => ∃ g, e = .returned (.slice (some ⟨g, 0, none⟩) 21 21) ∧ w.heap.size ≤ g ∧ StrIn w' g signsL ∧ Below w.heap.size w w' := by
  go_enter Tryd.func82, Tryd.ntmps82
  go_wp2
  go_ret
  exact ⟨w.heap.size, rfl, Nat.le_refl _, strIn_alloc w signsL 9, (Below.refl _ w).alloc (Nat.le_refl _) _⟩

/-- does a text begin with another one, folded, or not? -/
def foldIf (f : Bool) (c : UInt8) : UInt8 := if f then up c else c
def rBegins (f : Bool) (l t : Bs) : Bool := decide (t.length ≤ l.length) && ((l.take t.length).map (foldIf f) == t)
theorem rBegins_no (f : Bool) (l t : Bs) (i : Nat) (h : i < l.length) (h' : i < t.length) (hne : foldIf f l[i] ≠ t[i]) : rBegins f l t = false := by
  unfold rBegins
  rw [Bool.and_eq_false_iff]
  right
  rw [beq_eq_false_iff_ne]
  intro e
  apply hne
  have e2 : ((l.take t.length).map (foldIf f))[i]? = t[i]? := by rw [e]
  rw [List.getElem?_map, List.getElem?_take_of_lt h', List.getElem?_eq_getElem h, List.getElem?_eq_getElem h'] at e2
  simpa using e2
theorem rBegins_yes (f : Bool) (l t : Bs) (hle : t.length ≤ l.length) (h : ∀ i (h : i < l.length) (h' : i < t.length), foldIf f l[i] = t[i]) : rBegins f l t = true := by
  unfold rBegins
  rw [decide_eq_true hle, Bool.true_and, beq_iff_eq]
  apply List.ext_getElem
  · simp; omega
  · intro i h1 h2
    rw [List.getElem_map, List.getElem_take]
    exact h i (by omega) h2
set_option maxRecDepth 100000 in
set_option maxHeartbeats 1600000 in
theorem begins_any (f : Bool) (l t : Bs) (w : World) (hs : l.length ≤ 9223372036854775807) :
    Calls Tryd.prog 116 #[.string ⟨l.toArray⟩, .string ⟨t.toArray⟩, .bool f] w fun e w' => e = .returned (.bool (rBegins f l t)) ∧ w = w' := by
  by_cases hle : t.length ≤ l.length
  · have HYES := Lib.hid (rBegins_yes f l t hle)
    have HNO := Lib.hid (rBegins_no f l t)
    generalize rBegins f l t = r at *
    go_enter Tryd.func116, Tryd.ntmps116
    go_wp2_with fail
    go_loopg [7] (t.length) (fun g i wr => ∃ k : Nat, k ≤ t.length ∧ g = t.length - k ∧ i = .int .i64 k ∧ Hid (∀ j (h : j < l.length) (h' : j < t.length), j < k → foldIf f l[j] = t[j]) ∧ w = wr)
    case atStart => exact ⟨0, Nat.zero_le _, rfl, rfl, Lib.hid (fun j _ _ h => by omega), rfl⟩
    case round =>
      obtain ⟨k, hk, rfl, rfl, hq, rfl⟩ := hrel
      by_cases hlt : k < t.length
      · have hlt2 : k < l.length := by omega
        go_upto_region 7 with fail
        go_cut [31] (fun v wx => v = .bool (f && isLow l[k]) ∧ w = wx)
        case first =>
          cases f
          · go_wp2_with fail
            go_meet
            exact ⟨rfl, rfl⟩
          · cases hlow : isLow l[k]
            · by_cases h97 : 97 ≤ l[k].toNat
              · have h122 : ¬ l[k].toNat ≤ 122 := by
                  intro h
                  rw [(isLow_iff _).2 ⟨h97, h⟩] at hlow; cases hlow
                have d1 : decide ((97 : Int) ≤ (l[k].toNat : Int)) = true := by simp; omega
                have d2 : decide ((l[k].toNat : Int) ≤ 122) = false := by simp; omega
                go_wp2_with fail
                go_meet
                exact ⟨by first | rfl | (rw [hlow]; rfl), rfl⟩
              · have d1 : decide ((97 : Int) ≤ (l[k].toNat : Int)) = false := by simp; omega
                go_wp2_with fail
                go_meet
                exact ⟨by first | rfl | (rw [hlow]; rfl), rfl⟩
            · obtain ⟨h1, h2⟩ := (isLow_iff _).1 hlow
              have d1 : decide ((97 : Int) ≤ (l[k].toNat : Int)) = true := by simp; omega
              have d2 : decide ((l[k].toNat : Int) ≤ 122) = true := by simp; omega
              go_wp2_with fail
              go_meet
              exact ⟨by first | rfl | (rw [hlow]; rfl), rfl⟩
        case rest =>
          obtain ⟨rfl, rfl⟩ := hcut
          go_upto_if 31 with fail
          go_cut [8] (fun v wx => v = .int .u8 ((foldIf f l[k]).toNat : Int) ∧ w = wx)
          case first =>
            cases hb : (f && isLow l[k])
            · have hc : Hid (foldIf f l[k] = l[k]) := Lib.hid (by
                unfold foldIf
                cases f
                · rfl
                · exact up_other _ (by simpa using hb))
              go_wp2_with fail
              go_meet
              exact ⟨by rw [hc.out], rfl⟩
            · have hf : f = true := by
                cases f
                · cases hb
                · rfl
              subst hf
              have hlow : isLow l[k] = true := by simpa using hb
              obtain ⟨h1, h2⟩ := (isLow_iff _).1 hlow
              have hc : Hid ((((foldIf true l[k]).toNat : Nat) : Int) = (l[k].toNat : Int) - 32) := Lib.hid (by
                have := up_low _ hlow
                show (((up l[k]).toNat : Nat) : Int) = _
                omega)
              go_wp2_with fail
              go_meet
              exact ⟨by rw [hc.out], rfl⟩
          case rest =>
            obtain ⟨rfl, rfl⟩ := hcut
            have hn := Lib.hid (HNO.out k hlt2 hlt)
            have e1 := u8_bne (foldIf f l[k]) t[k] _ rfl
            have hqk : Hid (foldIf f l[k] = t[k] → ∀ j (h : j < l.length) (h' : j < t.length), j < k + 1 → foldIf f l[j] = t[j]) := Lib.hid (by
              intro e j h h' hj
              by_cases ej : j = k
              · subst ej; exact e
              · exact hq.out j h h' (by omega))
            generalize foldIf f l[k] = c at *
            cases he : (c == t[k])
            · rw [he] at e1
              have hr : Hid (r = false) := Lib.hid (hn.out (by intro e; rw [e] at he; simp at he))
              go_wp2_with fail
              go_ret
              exact ⟨ret_bool (by rw [hr.out]), rfl⟩
            · rw [he] at e1
              have hq2 := Lib.hid (hqk.out (eq_of_beq he))
              go_wp2_with fail
              go_roundg (t.length - (k + 1))
              case measure => omega
              case rel => exact ⟨k + 1, by omega, rfl, by go_num, hq2, rfl⟩
      · have hr : Hid (r = true) := Lib.hid (HYES.out (fun j h h' => hq.out j h h' (by omega)))
        go_wp2_with fail
        go_ret
        exact ⟨ret_bool (by rw [hr.out]), rfl⟩
  · have hr : rBegins f l t = false := by unfold rBegins; rw [decide_eq_false hle]; rfl
    rw [hr]
    clear hr
    go_enter Tryd.func116, Tryd.ntmps116
    go_wp2_with fail
    go_ret
    exact ⟨rfl, rfl⟩
/-- what the document's Next may tell: of a token of size 0 nothing is said -/
def NextIs (l : Bs) (kind : Nat) (text : Bs) (size : Nat) : Prop := size = (pToken l).2.2 ∧ (size ≠ 0 → kind = (pToken l).1 ∧ text = (pToken l).2.1)
theorem nextIs_of {l : Bs} {x : Nat × Bs × Nat} (h : pToken l = x) : NextIs l x.1 x.2.1 x.2.2 := by
  rw [← h]
  exact ⟨rfl, fun _ => ⟨rfl, rfl⟩⟩
def wordy (l : Bs) : Bool := letter0 l || atIs l 0 95 || atIs l 0 36
theorem wordy_pos (l : Bs) (h : wordy l = true) : 0 < runP isWord l := by
  cases l with
  | nil => cases h
  | cons c l =>
    unfold wordy at h
    simp only [atIs_cons, letter0] at h
    have : isWord c = true := by
      unfold isWord
      rcases Bool.or_eq_true_iff.1 h with h | h
      · rcases Bool.or_eq_true_iff.1 h with h | h
        · rw [h]; rfl
        · rw [h]; simp
      · rw [h]; simp
    simp [runP, this]
theorem rWord_yes (l : Bs) (h : wordy l = true) : rWord l = runP isWord l := by unfold rWord; unfold wordy at h; rw [h]; rfl
theorem rWord_no (l : Bs) (h : wordy l = false) : rWord l = 0 := by unfold rWord; unfold wordy at h; rw [h]; rfl
theorem wordy_take (l : Bs) (n : Nat) (hn : 0 < n) : wordy (l.take n) = wordy l := by
  cases l with
  | nil => simp
  | cons c l =>
    cases n with
    | zero => omega
    | succ n => rfl
theorem rIsName_take (l : Bs) (h : wordy l = true) : rIsName (l.take (runP isWord l)) = (!pMark (l.take (runP isWord l)) && decide (dollars (l.take (runP isWord l)) = 0)) := by
  have hp := wordy_pos l h
  have hle := runP_le isWord l
  unfold rIsName
  rw [rWord_yes _ (by rw [wordy_take l _ hp]; exact h), runP_take, List.length_take]
  rw [decide_eq_true (by omega), decide_eq_true (by omega)]
  rfl
theorem rBegins_true (l : Bs) (k : Nat) : rBegins true l (faultB k) = pFaultAt l k := rfl
theorem up_hash (c : UInt8) (h : up c = 35) : c = 35 := by
  cases hl : isLow c
  · rw [up_other c hl] at h; exact h
  · have h1 := up_low c hl
    have h2 := (isLow_iff c).1 hl
    rw [h] at h1
    have : (35 : UInt8).toNat = 35 := rfl
    omega
theorem faultB_head : ∀ k, 1 ≤ k → k < 10 → (faultB k).head? = some 35 := by
  intro k h1 h2
  match k, h1, h2 with
  | 1, _, _ => rfl
  | 2, _, _ => rfl
  | 3, _, _ => rfl
  | 4, _, _ => rfl
  | 5, _, _ => rfl
  | 6, _, _ => rfl
  | 7, _, _ => rfl
  | 8, _, _ => rfl
  | 9, _, _ => rfl
theorem pFaultAt_hash (l : Bs) (k : Nat) (h1 : 1 ≤ k) (h2 : k < 10) (h : pFaultAt l k = true) : atIs l 0 35 = true := by
  unfold pFaultAt at h
  simp only [Bool.and_eq_true, decide_eq_true_eq] at h
  obtain ⟨h3, h4⟩ := h
  have hh := faultB_head k h1 h2
  cases hf : faultB k with
  | nil => rw [hf] at hh; cases hh
  | cons d t =>
    rw [hf] at hh h3 h4
    injection hh with hh
    subst hh
    cases l with
    | nil => simp at h3
    | cons c l =>
      have h5 := eq_of_beq h4
      simp only [List.length_cons, List.take_succ_cons, pFold, List.map_cons] at h5
      injection h5 with h5 _
      rw [atIs_cons, up_hash c h5]
      rfl
theorem faultB_pos : ∀ k, 1 ≤ k → k < 10 → 0 < (faultB k).length := by
  intro k h1 h2
  have := faultB_head k h1 h2
  cases hf : faultB k with
  | nil => rw [hf] at this; cases this
  | cons d t => simp
theorem fault_found (l : Bs) (k : Nat) (h1 : 1 ≤ k) (h2 : k < 10) (h : pFaultAt l k = true) (hb : ∀ j, 1 ≤ j → j < k → pFaultAt l j = false) : pFaultB l = faultB k := by
  unfold pFaultB pFault
  rw [pFaultAt_hash l k h1 h2 h, if_pos rfl, find_first _ 9 k h1 (by omega) h hb]
theorem fault_none (l : Bs) (h : ∀ j, 1 ≤ j → j < 10 → pFaultAt l j = false) : pFaultB l = [] := by
  unfold pFaultB pFault
  rw [find_no _ 9 h]
  split <;> rename_i e
  · split at e <;> cases e
  · rfl
theorem rBegins_false (l t : Bs) : rBegins false l t = Lib.hasPrefix l t := by
  unfold rBegins Lib.hasPrefix
  have e : (l.take t.length).map (foldIf false) = l.take t.length := by
    have : foldIf false = id := funext fun c => rfl
    rw [this, List.map_id]
  rw [e, Bool.eq_iff_iff, List.isPrefixOf_iff_prefix, Bool.and_eq_true, decide_eq_true_eq, beq_iff_eq]
  constructor
  · rintro ⟨h1, h2⟩
    have h3 : t ++ l.drop t.length = l := by
      have := List.take_append_drop t.length l
      rw [h2] at this
      exact this
    exact ⟨_, h3⟩
  · rintro ⟨r, rfl⟩
    simp
theorem idx_mem (l : Bs) (c : UInt8) (h : c ∈ l) : 0 ≤ Lib.indexByte l c := by
  rcases Int.lt_or_le (Lib.indexByte l c) 0 with h1 | h1
  · exact absurd h (idx_no l c h1)
  · exact h1
theorem mem_idx (l : Bs) (c : UInt8) (h : 0 ≤ Lib.indexByte l c) : c ∈ l := by
  obtain ⟨n, _, h2, _, h4⟩ := idx_yes l c h
  rw [h4]
  simp
theorem hasPrefix_one (c : UInt8) (r : Bs) (d : UInt8) : Lib.hasPrefix (c :: r) [d] = (c == d) := by
  rw [hasPrefix_at, atIs_cons]
theorem signsL_pos : ∀ i (hi : i < signsL.length), 0 < (signsL[i]).length := by decide
theorem signsL_len : signsL.length = 21 := rfl
theorem sign_none (c : UInt8) (r : Bs) (h : ∀ i (hi : i < signsL.length), Lib.hasPrefix (c :: r) signsL[i] = false) : pSign (c :: r) = 0 := by
  unfold pSign
  have h0 := h 0 (by decide)
  have h1 := h 1 (by decide)
  have h2 := h 2 (by decide)
  simp only [signsL, List.getElem_cons_zero, List.getElem_cons_succ] at h0 h1 h2
  rw [h0, h1, h2, if_neg (by decide), if_neg]
  intro hi
  have hm := mem_idx _ _ hi
  simp only [List.headD_cons] at hm
  have key : ∀ d ∈ signs1, ∃ i, ∃ hi : i < signsL.length, signsL[i] = [d] := by decide
  obtain ⟨i, hi', e⟩ := key c hm
  have := h i hi'
  rw [e, hasPrefix_one] at this
  simp at this
theorem sign_found (c : UInt8) (r : Bs) (i : Nat) (hi : i < signsL.length) (hy : Lib.hasPrefix (c :: r) signsL[i] = true) (hb : ∀ j (hj : j < signsL.length), j < i → Lib.hasPrefix (c :: r) signsL[j] = false) :
    pSign (c :: r) = (signsL[i]).length ∧ (c :: r).take (pSign (c :: r)) = signsL[i] := by
  have htake : ∀ t : Bs, Lib.hasPrefix (c :: r) t = true → (c :: r).take t.length = t := by
    intro t ht
    rw [← rBegins_false] at ht
    unfold rBegins at ht
    simp only [Bool.and_eq_true, decide_eq_true_eq] at ht
    have := eq_of_beq ht.2
    have e : ((c :: r).take t.length).map (foldIf false) = (c :: r).take t.length := by
      have : foldIf false = id := funext fun c => rfl
      rw [this, List.map_id]
    rw [e] at this
    exact this
  have hlen : pSign (c :: r) = (signsL[i]).length := by
    rcases Nat.lt_or_ge i 3 with h3 | h3
    · have e2 : (signsL[i]).length = 2 := by
        have key : ∀ i (hi : i < signsL.length), i < 3 → (signsL[i]).length = 2 := by decide
        exact key i hi h3
      rw [e2]
      unfold pSign
      rw [if_pos]
      have : i = 0 ∨ i = 1 ∨ i = 2 := by omega
      rcases this with rfl | rfl | rfl
      all_goals simp only [signsL, List.getElem_cons_zero, List.getElem_cons_succ] at hy
      all_goals rw [hy]
      all_goals simp
    · have h0 := hb 0 (by decide) (by omega)
      have h1 := hb 1 (by decide) (by omega)
      have h2 := hb 2 (by decide) (by omega)
      have key : ∀ i (hi : i < signsL.length), 3 ≤ i → ∃ d ∈ signs1, signsL[i] = [d] := by decide
      obtain ⟨d, hd, e⟩ := key i hi h3
      rw [e] at hy ⊢
      rw [hasPrefix_one] at hy
      have hcd := eq_of_beq hy
      subst hcd
      simp only [signsL, List.getElem_cons_zero, List.getElem_cons_succ] at h0 h1 h2
      unfold pSign
      rw [h0, h1, h2, if_neg (by decide), List.headD_cons, if_pos (idx_mem _ _ hd)]
      rfl
  exact ⟨hlen, by rw [hlen]; exact htake _ hy⟩
end Go.Proofs.YtcgdeoldgnjdeaaDoor
