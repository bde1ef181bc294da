/-
  lex.number: what it returns.
-/
import Derived.Test.YtcgdeoldgnjdeaaDoorLex1
namespace Go.Proofs.YtcgdeoldgnjdeaaDoor
open Go.RowKit

theorem drop_len {l : Bs} {n k : Nat} (h : l.length ≤ n) : (l.drop k).length ≤ n := by rw [List.length_drop]; omega
set_option maxRecDepth 100000 in
set_option maxHeartbeats 800000 in
theorem number_any (l : Bs) (w : World) (hs : l.length ≤ maxLen) :
    Calls Tryd.prog 107 #[.string ⟨l.toArray⟩] w fun e w' => e = .returned (.int .i64 (pNumber l)) ∧ w = w' := by
  have hs' := hs
  unfold maxLen at hs'
  have ha := runP_le isDigit l
  have hb := pNumA_le l
  have hB : pNumA l = if atIs l (runP isDigit l) 46 && decide (0 < runP isDigit (l.drop (runP isDigit l + 1))) then runP isDigit l + 1 + runP isDigit (l.drop (runP isDigit l + 1)) else runP isDigit l := rfl
  have HB := Lib.hid hB
  clear hB
  have hN : pNumber l = if pNumA l = 0 ∨ (atIs l (pNumA l) 101 = false ∧ atIs l (pNumA l) 69 = false) then pNumA l else if 0 < runP isDigit (l.drop (pPow l (pNumA l))) then pPow l (pNumA l) + runP isDigit (l.drop (pPow l (pNumA l))) else pNumA l := rfl
  have HN := Lib.hid hN
  clear hN
  generalize pNumA l = b at *
  generalize pNumber l = r at *
  go_enter Tryd.func107, Tryd.ntmps107
  go_wp2_with fail
  refine (runDigit_any _ _ hs).mono ?_
  rintro e w' ⟨rfl, rfl⟩
  generalize runP isDigit l = a at *
  go_upto_region 2 with fail
  go_cut [18] (fun v wx => v = .bool (atIs l a 46) ∧ w = wx)
  case first =>
    by_cases hlt : a < l.length
    · have e := at_beq l a 46 46 rfl hlt
      go_wp2
      all_goals go_meet
      all_goals exact ⟨rfl, rfl⟩
    · have e := at_out l a 46 (by omega)
      go_wp2
      go_meet
      exact ⟨by rw [e], rfl⟩
  case rest =>
    obtain ⟨rfl, rfl⟩ := hcut
    go_upto_if 18 with fail
    go_cut [3, 4] (fun v _ wx => v = .int .i64 b ∧ w = wx)
    case first =>
      have hd := runP_le isDigit (l.drop (a + 1))
      rw [List.length_drop] at hd
      cases h46 : atIs l a 46
      · go_wp2_with fail
        go_meet
        exact ⟨by rw [HB.out, h46]; rfl, rfl⟩
      · have hlt := at_lt _ _ _ h46
        go_wp2_with fail
        refine (runDigit_any _ _ (drop_len hs)).mono ?_
        rintro e w' ⟨rfl, rfl⟩
        generalize runP isDigit (l.drop (a + 1)) = d at *
        by_cases h0 : 0 < d
        all_goals go_wp2_with fail
        all_goals go_meet
        · exact ⟨by rw [HB.out, h46, decide_eq_true h0]; simp; omega, rfl⟩
        · exact ⟨by rw [HB.out, h46, decide_eq_false h0]; rfl, rfl⟩
    case rest =>
      obtain ⟨rfl, rfl⟩ := hcut
      clear HB
      by_cases hb0 : b = 0
      · have HN2 : Hid (r = b) := Lib.hid (by rw [HN.out, if_pos (Or.inl hb0)])
        subst hb0
        go_wp2
        go_ret
        exact ⟨ret_int (by rw [HN2.out]; rfl), rfl⟩
      · by_cases hlt : b < l.length
        · have e1 := at_bne l b 101 101 rfl hlt
          have e2 := at_bne l b 69 69 rfl hlt
          have e3 : ((b : Int) == 0) = false := by simp; omega
          have e4 : ((b : Int) == (l.length : Int)) = false := by simp; omega
          go_upto_region 6 with fail
          go_cut [49] (fun v wx => v = .bool (!(atIs l b 101 || atIs l b 69)) ∧ w = wx)
          case first =>
            cases h1 : atIs l b 101 <;> cases h2 : atIs l b 69
            all_goals rw [h1] at e1; rw [h2] at e2
            all_goals go_wp2
            all_goals go_meet
            all_goals exact ⟨by rw [h1, h2]; rfl, rfl⟩
          case rest =>
            clear e1 e2
            obtain ⟨rfl, rfl⟩ := hcut
            cases hc : (atIs l b 101 || atIs l b 69)
            · have HN2 : Hid (r = b) := Lib.hid (by rw [HN.out, if_pos (Or.inr (by simpa using hc))])
              clear HN
              go_wp2
              go_ret
              exact ⟨ret_int (by rw [HN2.out]), rfl⟩
            · have HN2 : Hid (r = if 0 < runP isDigit (l.drop (pPow l b)) then pPow l b + runP isDigit (l.drop (pPow l b)) else b) := Lib.hid (by rw [HN.out, if_neg (by intro h; rcases h with h | ⟨h3, h4⟩; exact hb0 h; rw [h3, h4] at hc; cases hc)])
              clear HN
              go_upto_region 9 with fail
              go_cut [68] (fun v wx => v = .bool (atIs l (b + 1) 43 || atIs l (b + 1) 45) ∧ w = wx)
              case first =>
                by_cases hlt1 : b + 1 < l.length
                · have e1 := at_beq l (b + 1) 43 43 rfl hlt1
                  have e2 := at_beq l (b + 1) 45 45 rfl hlt1
                  cases h1 : atIs l (b + 1) 43 <;> cases h2 : atIs l (b + 1) 45
                  all_goals rw [h1] at e1; rw [h2] at e2
                  all_goals go_wp2
                  all_goals go_meet
                  all_goals exact ⟨by rw [h1, h2]; rfl, rfl⟩
                · have h1 := at_out l (b + 1) 43 (by omega)
                  have h2 := at_out l (b + 1) 45 (by omega)
                  go_wp2
                  go_meet
                  exact ⟨by rw [h1, h2]; rfl, rfl⟩
              case rest =>
                obtain ⟨rfl, rfl⟩ := hcut
                go_upto_if 68 with fail
                go_cut [5] (fun v wx => v = .int .i64 (pPow l b) ∧ w = wx)
                case first =>
                  cases h1 : (atIs l (b + 1) 43 || atIs l (b + 1) 45)
                  · go_wp2
                    go_meet
                    exact ⟨by unfold pPow; rw [h1]; rfl, rfl⟩
                  · have hlt2 : b + 1 < l.length := by rcases Bool.or_eq_true_iff.1 h1 with h | h <;> exact at_lt _ _ _ h
                    go_wp2
                    go_meet
                    exact ⟨by unfold pPow; rw [h1]; rfl, rfl⟩
                case rest =>
                  obtain ⟨rfl, rfl⟩ := hcut
                  have hp := pPow_le l b hlt
                  generalize pPow l b = p at *
                  have hd := runP_le isDigit (l.drop p)
                  rw [List.length_drop] at hd
                  go_wp2_with fail
                  refine (runDigit_any _ _ (drop_len hs)).mono ?_
                  rintro e w' ⟨rfl, rfl⟩
                  generalize runP isDigit (l.drop p) = d at *
                  by_cases h0 : 0 < d
                  · have HN3 : Hid (r = p + d) := Lib.hid (by rw [HN2.out, if_pos h0])
                    clear HN2
                    go_wp2_with fail
                    go_ret
                    exact ⟨ret_int (by rw [HN3.out]; simp), rfl⟩
                  · have HN3 : Hid (r = b) := Lib.hid (by rw [HN2.out, if_neg h0])
                    clear HN2
                    go_wp2_with fail
                    go_ret
                    exact ⟨ret_int (by rw [HN3.out]), rfl⟩
        · have HN2 : Hid (r = b) := Lib.hid (by rw [HN.out, if_pos (Or.inr ⟨at_out _ _ _ (by omega), at_out _ _ _ (by omega)⟩)])
          have e3 : ((b : Int) == 0) = false := by simp; omega
          have e4 : ((b : Int) == (l.length : Int)) = true := by simp; omega
          go_wp2
          go_ret
          exact ⟨ret_int (by rw [HN2.out]), rfl⟩
end Go.Proofs.YtcgdeoldgnjdeaaDoor
