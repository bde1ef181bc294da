/-
  lex.sign, lex.isMark: what they return.
-/
import Derived.Test.YtcgdeoldgnjdeaaDoorLex3
import Derived.Test.YtcgdeoldgnjdeaaDoorStrWraps
namespace Go.Proofs.YtcgdeoldgnjdeaaDoor
open Go.RowKit

set_option maxHeartbeats 800000 in
theorem sign_any (c : UInt8) (l : Bs) (w : World) :
    Calls Tryd.prog 112 #[.string ⟨(c :: l).toArray⟩] w fun e w' => e = .returned (.int .i64 (pSign (c :: l))) ∧ w = w' := by
  have hN : pSign (c :: l) = if Lib.hasPrefix (c :: l) [60, 62] || Lib.hasPrefix (c :: l) [60, 61] || Lib.hasPrefix (c :: l) [62, 61] then 2 else if 0 ≤ Lib.indexByte signs1 c then 1 else 0 := rfl
  have HN := Lib.hid hN
  clear hN
  generalize pSign (c :: l) = r at *
  go_enter Tryd.func112, Tryd.ntmps112
  go_wp2_with fail
  refine (hasPrefix_any (c :: l) [60, 62] _).mono ?_
  rintro e w' ⟨rfl, rfl⟩
  cases h1 : Lib.hasPrefix (c :: l) [60, 62]
  · go_wp2_with fail
    refine (hasPrefix_any (c :: l) [60, 61] _).mono ?_
    rintro e w' ⟨rfl, rfl⟩
    cases h2 : Lib.hasPrefix (c :: l) [60, 61]
    · go_wp2_with fail
      refine (hasPrefix_any (c :: l) [62, 61] _).mono ?_
      rintro e w' ⟨rfl, rfl⟩
      cases h3 : Lib.hasPrefix (c :: l) [62, 61]
      · go_wp2_with fail
        refine (indexByte_any signs1 c _).mono ?_
        rintro e w' ⟨rfl, rfl⟩
        rw [h1, h2, h3] at HN
        generalize Lib.indexByte signs1 c = i at *
        by_cases hi : 0 ≤ i
        · have HN2 : Hid (r = 1) := Lib.hid (by rw [HN.out, if_neg (by simp), if_pos hi])
          clear HN
          go_wp2_with fail
          go_ret
          exact ⟨ret_int (by rw [HN2.out]; rfl), rfl⟩
        · have HN2 : Hid (r = 0) := Lib.hid (by rw [HN.out, if_neg (by simp), if_neg hi])
          clear HN
          go_wp2_with fail
          go_ret
          exact ⟨ret_int (by rw [HN2.out]; rfl), rfl⟩
      · rw [h1, h2, h3] at HN
        go_wp2_with fail
        go_ret
        exact ⟨ret_int (by rw [HN.out]; rfl), rfl⟩
    · rw [h1, h2] at HN
      go_wp2_with fail
      go_ret
      exact ⟨ret_int (by rw [HN.out]; rfl), rfl⟩
  · rw [h1] at HN
    go_wp2_with fail
    go_ret
    exact ⟨ret_int (by rw [HN.out]; rfl), rfl⟩

/-- What is left of a mark. -/
theorem isMark_tail (r : Bs) : pTail r = true ↔ (runP isDigit r = r.length ∧ 1 ≤ runP isDigit r ∧ runP isDigit r ≤ 7 ∧ atIs r 0 48 = false) := by
  unfold pTail; simp [and_assoc]
set_option maxHeartbeats 800000 in
theorem isMark_any (l : Bs) (w : World) (hs : l.length ≤ maxLen) :
    Calls Tryd.prog 147 #[.string ⟨l.toArray⟩] w fun e w' => e = .returned (.bool (pMark l)) ∧ w = w' := by
  have hN : pMark l = pMark1 (Lib.hasPrefix l [36]) (Lib.trimPrefix l [36]) := rfl
  have HN := Lib.hid hN
  clear hN
  generalize pMark l = r at *
  have ht := trim_len l [36]
  go_enter Tryd.func147, Tryd.ntmps147
  go_wp2_with fail
  refine (cutPrefix_any l [36] _).mono ?_
  rintro e w' ⟨rfl, rfl⟩
  generalize Lib.hasPrefix l [36] = fixed at *
  generalize Lib.trimPrefix l [36] = s at *
  have hs1 : s.length ≤ maxLen := by omega
  have hle := runP_le isLetter s
  unfold maxLen at hs
  go_wp2_with fail
  refine (runLetter_any _ _ hs1).mono ?_
  rintro e w' ⟨rfl, rfl⟩
  unfold pMark1 at HN
  generalize runP isLetter s = n at *
  by_cases h3 : 3 < n
  · rw [if_pos h3] at HN
    go_wp2_with fail
    go_ret
    exact ⟨ret_bool (by rw [HN.out]), rfl⟩
  · rw [if_neg h3] at HN
    have hd : (s.drop n).length ≤ s.length := by rw [List.length_drop]; omega
    go_upto_region 6 with fail
    generalize s.drop n = t at *
    have ht2 := trim_len t [36]
    rcases t with _ | ⟨c, t⟩
    · rw [if_pos (by rfl)] at HN
      cases fixed <;> by_cases h0 : 0 < n
      all_goals go_wp2_with fail
      all_goals go_ret
      · exact ⟨ret_bool (by rw [HN.out]; rfl), rfl⟩
      · exact ⟨ret_bool (by rw [HN.out]; rfl), rfl⟩
      · exact ⟨ret_bool (by rw [HN.out]; simp [h0]), rfl⟩
      · exact ⟨ret_bool (by rw [HN.out]; simp [h0]), rfl⟩
    · rw [if_neg (by simp)] at HN
      by_cases h0 : 0 < n
      · rw [if_pos h0] at HN
        go_wp2_with fail
        refine (trimPrefix_any (c :: t) [36] _).mono ?_
        rintro e w' ⟨rfl, rfl⟩
        generalize Lib.trimPrefix (c :: t) [36] = u at *
        have hu : u.length ≤ maxLen := by omega
        go_wp2_with fail
        refine (runDigit_any u _ hu).mono ?_
        rintro e w' ⟨rfl, rfl⟩
        have hm := runP_le isDigit u
        unfold pTail at HN
        unfold maxLen at hu
        generalize runP isDigit u = m at *
        by_cases e1 : m = u.length
        · have b1 : ((m : Int) == (u.length : Int)) = true := by simp; omega
          by_cases e2 : 1 ≤ m
          · by_cases e3 : m ≤ 7
            · have hp : 0 < u.length := by omega
              have e4 := at_bne u 0 48 48 rfl hp
              have HT : Hid (r = !atIs u 0 48) := Lib.hid (by rw [HN.out]; simp [e1]; omega)
              clear HN e1
              go_wp2_with fail
              go_ret
              exact ⟨ret_bool (by rw [HT.out]), rfl⟩
            · have HT : Hid (r = false) := Lib.hid (by rw [HN.out]; simp [e3])
              clear HN e1
              go_wp2_with fail
              go_ret
              exact ⟨ret_bool (by rw [HT.out]), rfl⟩
          · have HT : Hid (r = false) := Lib.hid (by rw [HN.out]; simp [e2])
            clear HN e1
            go_wp2_with fail
            go_ret
            exact ⟨ret_bool (by rw [HT.out]), rfl⟩
        · have b1 : ((m : Int) == (u.length : Int)) = false := by simp; omega
          have HT : Hid (r = false) := Lib.hid (by rw [HN.out]; simp [e1])
          clear HN e1
          go_wp2_with fail
          go_ret
          exact ⟨ret_bool (by rw [HT.out]), rfl⟩
      · rw [if_neg h0] at HN
        cases fixed
        · go_wp2_with fail
          go_ret
          exact ⟨ret_bool (by rw [HN.out]; rfl), rfl⟩
        · rw [if_pos (by rfl)] at HN
          go_upto_region 12 with fail
          have hu : (c :: t).length ≤ maxLen := by omega
          clear ht2
          generalize c :: t = u at *
          go_wp2_with fail
          refine (runDigit_any u _ hu).mono ?_
          rintro e w' ⟨rfl, rfl⟩
          have hm := runP_le isDigit u
          unfold pTail at HN
          unfold maxLen at hu
          generalize runP isDigit u = m at *
          by_cases e1 : m = u.length
          · have b1 : ((m : Int) == (u.length : Int)) = true := by simp; omega
            by_cases e2 : 1 ≤ m
            · by_cases e3 : m ≤ 7
              · have hp : 0 < u.length := by omega
                have e4 := at_bne u 0 48 48 rfl hp
                have HT : Hid (r = !atIs u 0 48) := Lib.hid (by rw [HN.out]; simp [e1]; omega)
                clear HN e1
                go_wp2_with fail
                go_ret
                exact ⟨ret_bool (by rw [HT.out]), rfl⟩
              · have HT : Hid (r = false) := Lib.hid (by rw [HN.out]; simp [e3])
                clear HN e1
                go_wp2_with fail
                go_ret
                exact ⟨ret_bool (by rw [HT.out]), rfl⟩
            · have HT : Hid (r = false) := Lib.hid (by rw [HN.out]; simp [e2])
              clear HN e1
              go_wp2_with fail
              go_ret
              exact ⟨ret_bool (by rw [HT.out]), rfl⟩
          · have b1 : ((m : Int) == (u.length : Int)) = false := by simp; omega
            have HT : Hid (r = false) := Lib.hid (by rw [HN.out]; simp [e1])
            clear HN e1
            go_wp2_with fail
            go_ret
            exact ⟨ret_bool (by rw [HT.out]), rfl⟩
end Go.Proofs.YtcgdeoldgnjdeaaDoor
