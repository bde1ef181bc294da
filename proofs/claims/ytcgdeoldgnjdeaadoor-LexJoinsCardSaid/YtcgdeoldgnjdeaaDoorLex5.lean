/-
  lex: isDigit, isLetter, run, number, word, sign, isMark; wraps of package strings (merged: Lex1, Lex2, StrWraps, Lex3, Lex4, Lex5).
-/
import Derived.Test.YtcgdeoldgnjdeaaDoorKit
import Derived.Test.YtcgdeoldgnjdeaaDoorPlainQ
import Derived.Test.YtcgdeoldgnjdeaaDoorPl1
import Derived.Test.YtcgdeoldgnjdeaaDoorShelf
import Derived.OneCell
namespace Go.Proofs.YtcgdeoldgnjdeaaDoor
open Go.RowKit

set_option maxHeartbeats 400000 in
theorem isDigit_any (c : UInt8) (w : World) :
    Calls Tryd.prog 145 #[.int .u8 (c.toNat : Int)] w fun e w' => e = .returned (.bool (isDigit c)) ∧ w = w' := by
  go_enter Tryd.func145, Tryd.ntmps145
  go_wp2
  all_goals go_ret
  all_goals exact ⟨ret_bool (by unfold isDigit; rw [Bool.eq_iff_iff]; simp; omega), rfl⟩
set_option maxHeartbeats 400000 in
theorem isLetter_any (c : UInt8) (w : World) :
    Calls Tryd.prog 108 #[.int .u8 (c.toNat : Int)] w fun e w' => e = .returned (.bool (isLetter c)) ∧ w = w' := by
  go_enter Tryd.func108, Tryd.ntmps108
  go_wp2
  all_goals go_ret
  all_goals exact ⟨ret_bool (by unfold isLetter; rw [Bool.eq_iff_iff]; simp; omega), rfl⟩

set_option maxHeartbeats 400000 in
theorem runDigit_any (l : Bs) (w : World) (hs : l.length ≤ maxLen) :
    Calls Tryd.prog 144 #[.string ⟨l.toArray⟩, .func (.func 145) #[] #[]] w fun e w' => e = .returned (.int .i64 (runP isDigit l)) ∧ w = w' := by
  unfold maxLen at hs
  go_enter Tryd.func144, Tryd.ntmps144
  go_wp2
  go_loop [5] (fun i => ∃ k : Nat, k ≤ l.length ∧ i = .int .i64 k ∧ k ≤ runP isDigit l) (fun i => l.length - (intOf i).toNat)
  case atStart => exact ⟨0, Nat.zero_le _, rfl, Nat.zero_le _⟩
  case round =>
    obtain ⟨k, hk, rfl, hr⟩ := hrel
    by_cases hlt : k < l.length
    · cases hd : isDigit l[k]
      · have HQ := Lib.hid (runP_eq _ _ _ hr hlt hd)
        go_wp2_with (go_at_call 145; refine (isDigit_any _ _).mono ?_; rintro e w' ⟨rfl, rfl⟩)
        go_ret
        exact ⟨ret_int (by rw [HQ.out]), rfl⟩
      · have hq := runP_step _ _ _ hr hlt hd
        go_wp2_with (go_at_call 145; refine (isDigit_any _ _).mono ?_; rintro e w' ⟨rfl, rfl⟩)
        go_round
        case rel => exact ⟨k + 1, by omega, by go_num, hq⟩
        case measure => simp [intOf]; omega
    · have hq : runP isDigit l = k := by have := runP_le isDigit l; omega
      have HQ := Lib.hid hq
      clear hq
      go_wp2
      go_ret
      exact ⟨ret_int (by rw [HQ.out]), rfl⟩
set_option maxHeartbeats 400000 in
theorem runLetter_any (l : Bs) (w : World) (hs : l.length ≤ maxLen) :
    Calls Tryd.prog 144 #[.string ⟨l.toArray⟩, .func (.func 108) #[] #[]] w fun e w' => e = .returned (.int .i64 (runP isLetter l)) ∧ w = w' := by
  unfold maxLen at hs
  go_enter Tryd.func144, Tryd.ntmps144
  go_wp2
  go_loop [5] (fun i => ∃ k : Nat, k ≤ l.length ∧ i = .int .i64 k ∧ k ≤ runP isLetter l) (fun i => l.length - (intOf i).toNat)
  case atStart => exact ⟨0, Nat.zero_le _, rfl, Nat.zero_le _⟩
  case round =>
    obtain ⟨k, hk, rfl, hr⟩ := hrel
    by_cases hlt : k < l.length
    · cases hd : isLetter l[k]
      · have HQ := Lib.hid (runP_eq _ _ _ hr hlt hd)
        go_wp2_with (go_at_call 108; refine (isLetter_any _ _).mono ?_; rintro e w' ⟨rfl, rfl⟩)
        go_ret
        exact ⟨ret_int (by rw [HQ.out]), rfl⟩
      · have hq := runP_step _ _ _ hr hlt hd
        go_wp2_with (go_at_call 108; refine (isLetter_any _ _).mono ?_; rintro e w' ⟨rfl, rfl⟩)
        go_round
        case rel => exact ⟨k + 1, by omega, by go_num, hq⟩
        case measure => simp [intOf]; omega
    · have hq : runP isLetter l = k := by have := runP_le isLetter l; omega
      have HQ := Lib.hid hq
      clear hq
      go_wp2
      go_ret
      exact ⟨ret_int (by rw [HQ.out]), rfl⟩
theorem drop_len {l : Bs} {n k : Nat} (h : l.length ≤ n) : (l.drop k).length ≤ n := by rw [List.length_drop]; omega
set_option maxRecDepth 100000 in
set_option maxHeartbeats 800000 in
theorem number_any (l : Bs) (w : World) (hs : l.length ≤ maxLen) :
    Calls Tryd.prog 107 #[.string ⟨l.toArray⟩] w fun e w' => e = .returned (.int .i64 (pNumber l)) ∧ w = w' := by
  have hs' := hs
  unfold maxLen at hs'
  have ha := runP_le isDigit l
  have hb := pNumA_le l
  have hB : pNumA l = if atIs l (runP isDigit l) 46 && decide (0 < runP isDigit (l.drop (runP isDigit l + 1))) then runP isDigit l + 1 + runP isDigit (l.drop (runP isDigit l + 1)) else runP isDigit l := rfl
  have HB := Lib.hid hB
  clear hB
  have hN : pNumber l = if pNumA l = 0 ∨ (atIs l (pNumA l) 101 = false ∧ atIs l (pNumA l) 69 = false) then pNumA l else if 0 < runP isDigit (l.drop (pPow l (pNumA l))) then pPow l (pNumA l) + runP isDigit (l.drop (pPow l (pNumA l))) else pNumA l := rfl
  have HN := Lib.hid hN
  clear hN
  generalize pNumA l = b at *
  generalize pNumber l = r at *
  go_enter Tryd.func107, Tryd.ntmps107
  go_wp2_with fail
  refine (runDigit_any _ _ hs).mono ?_
  rintro e w' ⟨rfl, rfl⟩
  generalize runP isDigit l = a at *
  go_upto_region 2 with fail
  go_cut [18] (fun v wx => v = .bool (atIs l a 46) ∧ w = wx)
  case first =>
    by_cases hlt : a < l.length
    · have e := at_beq l a 46 46 rfl hlt
      go_wp2
      all_goals go_meet
      all_goals exact ⟨rfl, rfl⟩
    · have e := at_out l a 46 (by omega)
      go_wp2
      go_meet
      exact ⟨by rw [e], rfl⟩
  case rest =>
    obtain ⟨rfl, rfl⟩ := hcut
    go_upto_if 18 with fail
    go_cut [3, 4] (fun v _ wx => v = .int .i64 b ∧ w = wx)
    case first =>
      have hd := runP_le isDigit (l.drop (a + 1))
      rw [List.length_drop] at hd
      cases h46 : atIs l a 46
      · go_wp2_with fail
        go_meet
        exact ⟨by rw [HB.out, h46]; rfl, rfl⟩
      · have hlt := at_lt _ _ _ h46
        go_wp2_with fail
        refine (runDigit_any _ _ (drop_len hs)).mono ?_
        rintro e w' ⟨rfl, rfl⟩
        generalize runP isDigit (l.drop (a + 1)) = d at *
        by_cases h0 : 0 < d
        all_goals go_wp2_with fail
        all_goals go_meet
        · exact ⟨by rw [HB.out, h46, decide_eq_true h0]; simp; omega, rfl⟩
        · exact ⟨by rw [HB.out, h46, decide_eq_false h0]; rfl, rfl⟩
    case rest =>
      obtain ⟨rfl, rfl⟩ := hcut
      clear HB
      by_cases hb0 : b = 0
      · have HN2 : Hid (r = b) := Lib.hid (by rw [HN.out, if_pos (Or.inl hb0)])
        subst hb0
        go_wp2
        go_ret
        exact ⟨ret_int (by rw [HN2.out]; rfl), rfl⟩
      · by_cases hlt : b < l.length
        · have e1 := at_bne l b 101 101 rfl hlt
          have e2 := at_bne l b 69 69 rfl hlt
          have e3 : ((b : Int) == 0) = false := by simp; omega
          have e4 : ((b : Int) == (l.length : Int)) = false := by simp; omega
          go_upto_region 6 with fail
          go_cut [49] (fun v wx => v = .bool (!(atIs l b 101 || atIs l b 69)) ∧ w = wx)
          case first =>
            cases h1 : atIs l b 101 <;> cases h2 : atIs l b 69
            all_goals rw [h1] at e1; rw [h2] at e2
            all_goals go_wp2
            all_goals go_meet
            all_goals exact ⟨by rw [h1, h2]; rfl, rfl⟩
          case rest =>
            clear e1 e2
            obtain ⟨rfl, rfl⟩ := hcut
            cases hc : (atIs l b 101 || atIs l b 69)
            · have HN2 : Hid (r = b) := Lib.hid (by rw [HN.out, if_pos (Or.inr (by simpa using hc))])
              clear HN
              go_wp2
              go_ret
              exact ⟨ret_int (by rw [HN2.out]), rfl⟩
            · have HN2 : Hid (r = if 0 < runP isDigit (l.drop (pPow l b)) then pPow l b + runP isDigit (l.drop (pPow l b)) else b) := Lib.hid (by rw [HN.out, if_neg (by intro h; rcases h with h | ⟨h3, h4⟩; exact hb0 h; rw [h3, h4] at hc; cases hc)])
              clear HN
              go_upto_region 9 with fail
              go_cut [68] (fun v wx => v = .bool (atIs l (b + 1) 43 || atIs l (b + 1) 45) ∧ w = wx)
              case first =>
                by_cases hlt1 : b + 1 < l.length
                · have e1 := at_beq l (b + 1) 43 43 rfl hlt1
                  have e2 := at_beq l (b + 1) 45 45 rfl hlt1
                  cases h1 : atIs l (b + 1) 43 <;> cases h2 : atIs l (b + 1) 45
                  all_goals rw [h1] at e1; rw [h2] at e2
                  all_goals go_wp2
                  all_goals go_meet
                  all_goals exact ⟨by rw [h1, h2]; rfl, rfl⟩
                · have h1 := at_out l (b + 1) 43 (by omega)
                  have h2 := at_out l (b + 1) 45 (by omega)
                  go_wp2
                  go_meet
                  exact ⟨by rw [h1, h2]; rfl, rfl⟩
              case rest =>
                obtain ⟨rfl, rfl⟩ := hcut
                go_upto_if 68 with fail
                go_cut [5] (fun v wx => v = .int .i64 (pPow l b) ∧ w = wx)
                case first =>
                  cases h1 : (atIs l (b + 1) 43 || atIs l (b + 1) 45)
                  · go_wp2
                    go_meet
                    exact ⟨by unfold pPow; rw [h1]; rfl, rfl⟩
                  · have hlt2 : b + 1 < l.length := by rcases Bool.or_eq_true_iff.1 h1 with h | h <;> exact at_lt _ _ _ h
                    go_wp2
                    go_meet
                    exact ⟨by unfold pPow; rw [h1]; rfl, rfl⟩
                case rest =>
                  obtain ⟨rfl, rfl⟩ := hcut
                  have hp := pPow_le l b hlt
                  generalize pPow l b = p at *
                  have hd := runP_le isDigit (l.drop p)
                  rw [List.length_drop] at hd
                  go_wp2_with fail
                  refine (runDigit_any _ _ (drop_len hs)).mono ?_
                  rintro e w' ⟨rfl, rfl⟩
                  generalize runP isDigit (l.drop p) = d at *
                  by_cases h0 : 0 < d
                  · have HN3 : Hid (r = p + d) := Lib.hid (by rw [HN2.out, if_pos h0])
                    clear HN2
                    go_wp2_with fail
                    go_ret
                    exact ⟨ret_int (by rw [HN3.out]; simp), rfl⟩
                  · have HN3 : Hid (r = b) := Lib.hid (by rw [HN2.out, if_neg h0])
                    clear HN2
                    go_wp2_with fail
                    go_ret
                    exact ⟨ret_int (by rw [HN3.out]), rfl⟩
        · have HN2 : Hid (r = b) := Lib.hid (by rw [HN.out, if_pos (Or.inr ⟨at_out _ _ _ (by omega), at_out _ _ _ (by omega)⟩)])
          have e3 : ((b : Int) == 0) = false := by simp; omega
          have e4 : ((b : Int) == (l.length : Int)) = true := by simp; omega
          go_wp2
          go_ret
          exact ⟨ret_int (by rw [HN2.out]), rfl⟩
theorem hasPrefix_any (s p : Bs) (w : World) :
    Calls Tryd.prog 135 #[.string ⟨s.toArray⟩, .string ⟨p.toArray⟩] w fun e w' => e = .returned (.bool (Lib.hasPrefix s p)) ∧ w = w' :=
  (Tryd.strings_HasPrefix ⟨s.toArray⟩ ⟨p.toArray⟩ w).mono fun _ _ ⟨h1, h2⟩ => ⟨h1, h2.symm⟩
theorem cutPrefix_any (s p : Bs) (w : World) :
    Calls Tryd.prog 94 #[.string ⟨s.toArray⟩, .string ⟨p.toArray⟩] w fun e w' => e = .returned (.tuple #[.string ⟨(Lib.trimPrefix s p).toArray⟩, .bool (Lib.hasPrefix s p)]) ∧ w = w' :=
  (Tryd.strings_CutPrefix ⟨s.toArray⟩ ⟨p.toArray⟩ w).mono fun _ _ ⟨h1, h2⟩ => ⟨h1, h2.symm⟩
theorem trimPrefix_any (s p : Bs) (w : World) :
    Calls Tryd.prog 168 #[.string ⟨s.toArray⟩, .string ⟨p.toArray⟩] w fun e w' => e = .returned (.string ⟨(Lib.trimPrefix s p).toArray⟩) ∧ w = w' :=
  (Tryd.strings_TrimPrefix ⟨s.toArray⟩ ⟨p.toArray⟩ w).mono fun _ _ ⟨h1, h2⟩ => ⟨h1, h2.symm⟩
theorem u8_back (c : UInt8) : ((c.toNat : Int)).toNat.toUInt8 = c := by
  apply u8_eq; simp [Nat.toUInt8]
theorem indexByte_any (s : Bs) (c : UInt8) (w : World) :
    Calls Tryd.prog 128 #[.string ⟨s.toArray⟩, .int .u8 (c.toNat : Int)] w fun e w' => e = .returned (.int .i64 (Lib.indexByte s c)) ∧ w = w' :=
  (Tryd.strings_IndexByte ⟨s.toArray⟩ (c.toNat : Int) w).mono fun _ _ ⟨h1, h2⟩ => ⟨by rw [h1, u8_back], h2.symm⟩
set_option maxHeartbeats 400000 in
theorem word1_other (c : UInt8) (a : Addr) (w : World) (h36 : ((c.toNat : Int) == 36) = false) :
    Calls Tryd.prog 146 #[.int .u8 (c.toNat : Int), .pointer (some a)] w fun e w' => e = .returned (.bool (isWord c)) ∧ w = w' := by
  have e95 : ((c.toNat : Int) == 95) = (c == 95) := by rw [Bool.eq_iff_iff, beq_iff_eq, beq_iff_eq]; exact ⟨fun h => u8_eq (by simpa using (by omega : c.toNat = 95)), fun h => by rw [h]; rfl⟩
  have e46 : ((c.toNat : Int) == 46) = (c == 46) := by rw [Bool.eq_iff_iff, beq_iff_eq, beq_iff_eq]; exact ⟨fun h => u8_eq (by simpa using (by omega : c.toNat = 46)), fun h => by rw [h]; rfl⟩
  have e36 : (c == 36) = false := by rw [beq_eq_false_iff_ne]; intro h; rw [h] at h36; cases h36
  have hw : isWord c = (isLetter c || isDigit c || c == 95 || c == 46) := by unfold isWord; rw [e36, Bool.or_false]
  have HW := Lib.hid hw
  clear hw
  go_enter Tryd.func146, Tryd.ntmps146
  cases h1 : isLetter c <;> cases h2 : isDigit c <;> cases h3 : (c == 95) <;> cases h4 : (c == 46)
  all_goals rw [h3] at e95; rw [h4] at e46
  all_goals go_wp2_with (first | (go_at_call 108; refine (isLetter_any _ _).mono ?_; rintro e w' ⟨rfl, rfl⟩) | (go_at_call 145; refine (isDigit_any _ _).mono ?_; rintro e w' ⟨rfl, rfl⟩))
  all_goals go_ret
  all_goals exact ⟨ret_bool (by rw [HW.out, h1, h2, h3, h4]; rfl), rfl⟩
set_option maxHeartbeats 400000 in
theorem word1_dollar (b n : Nat) (w : World) (hc : w.cell? ⟨b, 0, none⟩ = some (.int .i64 n)) (hf : w.frozen? ⟨b, 0, none⟩ = false) (hn : n < 9223372036854775807) :
    Calls Tryd.prog 146 #[.int .u8 36, .pointer (some ⟨b, 0, none⟩)] w fun e w' => e = .returned (.bool true) ∧ w.setCell ⟨b, 0, none⟩ (.int .i64 (n + 1 : Nat)) = w' := by
  have h1 : isLetter 36 = false := rfl
  have h2 : isDigit 36 = false := rfl
  go_enter Tryd.func146, Tryd.ntmps146
  go_wp2_with (first | (go_at_call 108; refine (isLetter_any 36 _).mono ?_; rintro e w' ⟨rfl, rfl⟩) | (go_at_call 145; refine (isDigit_any 36 _).mono ?_; rintro e w' ⟨rfl, rfl⟩))
  go_ret
  exact ⟨rfl, by simp⟩
set_option maxHeartbeats 800000 in
theorem runWord_any (l : Bs) (b : Nat) (w : World) (hs : l.length ≤ maxLen) (hb : w.heap[b]? = some (.cells #[.int .i64 0] 3 (0, 0))) :
    Calls Tryd.prog 144 #[.string ⟨l.toArray⟩, .func (.func 146) #[] #[.pointer (some ⟨b, 0, none⟩)]] w fun e w' => e = .returned (.int .i64 (runP isWord l)) ∧ w'.heap[b]? = some (.cells #[.int .i64 (dollars (l.take (runP isWord l)) : Nat)] 3 (0, 0)) ∧ Below b w w' := by
  unfold maxLen at hs
  go_enter Tryd.func144, Tryd.ntmps144
  go_wp2
  go_loopw [5] (fun i wr => ∃ k : Nat, k ≤ l.length ∧ i = .int .i64 k ∧ k ≤ runP isWord l ∧ wr.heap[b]? = some (.cells #[.int .i64 (dollars (l.take k) : Nat)] 3 (0, 0)) ∧ Below b w wr) (fun i _ => l.length - (intOf i).toNat)
  case atStart => exact ⟨0, Nat.zero_le _, rfl, Nat.zero_le _, hb, Below.refl _ _⟩
  case round =>
    obtain ⟨k, hk, rfl, hr, hbk, hbel⟩ := hrel
    clear hb
    have HB := Lib.hid hbk
    have hc := cell_of_one hbk
    have hf := free_of_one hbk
    have hd := dollars_le (l.take k)
    rw [List.length_take, Nat.min_eq_left hk] at hd
    clear hbk
    by_cases hlt : k < l.length
    · have hsn : dollars (l.take (k + 1)) = dollars (l.take k) + if l[k] == 36 then 1 else 0 := by rw [List.take_succ_eq_append_getElem hlt, dollars_snoc]
      have HS := Lib.hid hsn
      clear hsn
      generalize hn : dollars (l.take k) = n at *
      have HN := Lib.hid hn
      clear hn
      cases h36 : ((l[k].toNat : Int) == 36)
      · have hw : Hid (dollars (l.take (k + 1)) = n) := Lib.hid (by
          rw [HS.out, if_neg]
          · rfl
          · intro h
            have := eq_of_beq h
            rw [this] at h36
            cases h36)
        cases hd : isWord l[k]
        · have HQ := Lib.hid (runP_eq _ _ _ hr hlt hd)
          go_wp2_with (go_at_call 146; refine (word1_other _ _ _ h36).mono ?_; rintro e w' ⟨rfl, rfl⟩)
          go_ret
          exact ⟨ret_int (by rw [HQ.out]), by rw [HQ.out, HN.out]; exact HB.out, hbel⟩
        · have hq := runP_step _ _ _ hr hlt hd
          go_wp2_with (go_at_call 146; refine (word1_other _ _ _ h36).mono ?_; rintro e w' ⟨rfl, rfl⟩)
          go_roundw
          case rel => exact ⟨k + 1, by omega, by go_num, hq, by rw [hw.out]; exact HB.out, hbel⟩
          case measure => simp [intOf]; omega
      · have h36' : l[k].toNat = 36 := by have := eq_of_beq h36; omega
        have hw : Hid (dollars (l.take (k + 1)) = n + 1) := Lib.hid (by rw [HS.out, u8_eq (c := l[k]) (d := 36) h36']; rfl)
        have hq := runP_step _ _ _ hr hlt (by rw [u8_eq (c := l[k]) (d := 36) h36']; rfl)
        go_wp2_with (go_at_call 146; refine (word1_dollar _ n _ hc hf (by omega)).mono ?_; rintro e w' ⟨rfl, rfl⟩)
        go_roundw
        case rel => exact ⟨k + 1, by omega, by go_num, hq, by rw [hw.out]; exact one_setCell HB.out, hbel.setCell (p := ⟨b, 0, none⟩) (Nat.le_refl _) _⟩
        case measure => simp [intOf]; omega
    · have hq : runP isWord l = k := by have := runP_le isWord l; omega
      have HQ := Lib.hid hq
      clear hq
      go_wp2
      go_ret
      exact ⟨ret_int (by rw [HQ.out]), by rw [HQ.out]; exact HB.out, hbel⟩
set_option maxHeartbeats 800000 in
theorem sign_any (c : UInt8) (l : Bs) (w : World) :
    Calls Tryd.prog 112 #[.string ⟨(c :: l).toArray⟩] w fun e w' => e = .returned (.int .i64 (pSign (c :: l))) ∧ w = w' := by
  have hN : pSign (c :: l) = if Lib.hasPrefix (c :: l) [60, 62] || Lib.hasPrefix (c :: l) [60, 61] || Lib.hasPrefix (c :: l) [62, 61] then 2 else if 0 ≤ Lib.indexByte signs1 c then 1 else 0 := rfl
  have HN := Lib.hid hN
  clear hN
  generalize pSign (c :: l) = r at *
  go_enter Tryd.func112, Tryd.ntmps112
  go_wp2_with fail
  refine (hasPrefix_any (c :: l) [60, 62] _).mono ?_
  rintro e w' ⟨rfl, rfl⟩
  cases h1 : Lib.hasPrefix (c :: l) [60, 62]
  · go_wp2_with fail
    refine (hasPrefix_any (c :: l) [60, 61] _).mono ?_
    rintro e w' ⟨rfl, rfl⟩
    cases h2 : Lib.hasPrefix (c :: l) [60, 61]
    · go_wp2_with fail
      refine (hasPrefix_any (c :: l) [62, 61] _).mono ?_
      rintro e w' ⟨rfl, rfl⟩
      cases h3 : Lib.hasPrefix (c :: l) [62, 61]
      · go_wp2_with fail
        refine (indexByte_any signs1 c _).mono ?_
        rintro e w' ⟨rfl, rfl⟩
        rw [h1, h2, h3] at HN
        generalize Lib.indexByte signs1 c = i at *
        by_cases hi : 0 ≤ i
        · have HN2 : Hid (r = 1) := Lib.hid (by rw [HN.out, if_neg (by simp), if_pos hi])
          clear HN
          go_wp2_with fail
          go_ret
          exact ⟨ret_int (by rw [HN2.out]; rfl), rfl⟩
        · have HN2 : Hid (r = 0) := Lib.hid (by rw [HN.out, if_neg (by simp), if_neg hi])
          clear HN
          go_wp2_with fail
          go_ret
          exact ⟨ret_int (by rw [HN2.out]; rfl), rfl⟩
      · rw [h1, h2, h3] at HN
        go_wp2_with fail
        go_ret
        exact ⟨ret_int (by rw [HN.out]; rfl), rfl⟩
    · rw [h1, h2] at HN
      go_wp2_with fail
      go_ret
      exact ⟨ret_int (by rw [HN.out]; rfl), rfl⟩
  · rw [h1] at HN
    go_wp2_with fail
    go_ret
    exact ⟨ret_int (by rw [HN.out]; rfl), rfl⟩

/-- What is left of a mark. -/
theorem isMark_tail (r : Bs) : pTail r = true ↔ (runP isDigit r = r.length ∧ 1 ≤ runP isDigit r ∧ runP isDigit r ≤ 7 ∧ atIs r 0 48 = false) := by
  unfold pTail; simp [and_assoc]
set_option maxHeartbeats 800000 in
theorem isMark_any (l : Bs) (w : World) (hs : l.length ≤ maxLen) :
    Calls Tryd.prog 147 #[.string ⟨l.toArray⟩] w fun e w' => e = .returned (.bool (pMark l)) ∧ w = w' := by
  have hN : pMark l = pMark1 (Lib.hasPrefix l [36]) (Lib.trimPrefix l [36]) := rfl
  have HN := Lib.hid hN
  clear hN
  generalize pMark l = r at *
  have ht := trim_len l [36]
  go_enter Tryd.func147, Tryd.ntmps147
  go_wp2_with fail
  refine (cutPrefix_any l [36] _).mono ?_
  rintro e w' ⟨rfl, rfl⟩
  generalize Lib.hasPrefix l [36] = fixed at *
  generalize Lib.trimPrefix l [36] = s at *
  have hs1 : s.length ≤ maxLen := by omega
  have hle := runP_le isLetter s
  unfold maxLen at hs
  go_wp2_with fail
  refine (runLetter_any _ _ hs1).mono ?_
  rintro e w' ⟨rfl, rfl⟩
  unfold pMark1 at HN
  generalize runP isLetter s = n at *
  by_cases h3 : 3 < n
  · rw [if_pos h3] at HN
    go_wp2_with fail
    go_ret
    exact ⟨ret_bool (by rw [HN.out]), rfl⟩
  · rw [if_neg h3] at HN
    have hd : (s.drop n).length ≤ s.length := by rw [List.length_drop]; omega
    go_upto_region 6 with fail
    generalize s.drop n = t at *
    have ht2 := trim_len t [36]
    rcases t with _ | ⟨c, t⟩
    · rw [if_pos (by rfl)] at HN
      cases fixed <;> by_cases h0 : 0 < n
      all_goals go_wp2_with fail
      all_goals go_ret
      · exact ⟨ret_bool (by rw [HN.out]; rfl), rfl⟩
      · exact ⟨ret_bool (by rw [HN.out]; rfl), rfl⟩
      · exact ⟨ret_bool (by rw [HN.out]; simp [h0]), rfl⟩
      · exact ⟨ret_bool (by rw [HN.out]; simp [h0]), rfl⟩
    · rw [if_neg (by simp)] at HN
      by_cases h0 : 0 < n
      · rw [if_pos h0] at HN
        go_wp2_with fail
        refine (trimPrefix_any (c :: t) [36] _).mono ?_
        rintro e w' ⟨rfl, rfl⟩
        generalize Lib.trimPrefix (c :: t) [36] = u at *
        have hu : u.length ≤ maxLen := by omega
        go_wp2_with fail
        refine (runDigit_any u _ hu).mono ?_
        rintro e w' ⟨rfl, rfl⟩
        have hm := runP_le isDigit u
        unfold pTail at HN
        unfold maxLen at hu
        generalize runP isDigit u = m at *
        by_cases e1 : m = u.length
        · have b1 : ((m : Int) == (u.length : Int)) = true := by simp; omega
          by_cases e2 : 1 ≤ m
          · by_cases e3 : m ≤ 7
            · have hp : 0 < u.length := by omega
              have e4 := at_bne u 0 48 48 rfl hp
              have HT : Hid (r = !atIs u 0 48) := Lib.hid (by rw [HN.out]; simp [e1]; omega)
              clear HN e1
              go_wp2_with fail
              go_ret
              exact ⟨ret_bool (by rw [HT.out]), rfl⟩
            · have HT : Hid (r = false) := Lib.hid (by rw [HN.out]; simp [e3])
              clear HN e1
              go_wp2_with fail
              go_ret
              exact ⟨ret_bool (by rw [HT.out]), rfl⟩
          · have HT : Hid (r = false) := Lib.hid (by rw [HN.out]; simp [e2])
            clear HN e1
            go_wp2_with fail
            go_ret
            exact ⟨ret_bool (by rw [HT.out]), rfl⟩
        · have b1 : ((m : Int) == (u.length : Int)) = false := by simp; omega
          have HT : Hid (r = false) := Lib.hid (by rw [HN.out]; simp [e1])
          clear HN e1
          go_wp2_with fail
          go_ret
          exact ⟨ret_bool (by rw [HT.out]), rfl⟩
      · rw [if_neg h0] at HN
        cases fixed
        · go_wp2_with fail
          go_ret
          exact ⟨ret_bool (by rw [HN.out]; rfl), rfl⟩
        · rw [if_pos (by rfl)] at HN
          go_upto_region 12 with fail
          have hu : (c :: t).length ≤ maxLen := by omega
          clear ht2
          generalize c :: t = u at *
          go_wp2_with fail
          refine (runDigit_any u _ hu).mono ?_
          rintro e w' ⟨rfl, rfl⟩
          have hm := runP_le isDigit u
          unfold pTail at HN
          unfold maxLen at hu
          generalize runP isDigit u = m at *
          by_cases e1 : m = u.length
          · have b1 : ((m : Int) == (u.length : Int)) = true := by simp; omega
            by_cases e2 : 1 ≤ m
            · by_cases e3 : m ≤ 7
              · have hp : 0 < u.length := by omega
                have e4 := at_bne u 0 48 48 rfl hp
                have HT : Hid (r = !atIs u 0 48) := Lib.hid (by rw [HN.out]; simp [e1]; omega)
                clear HN e1
                go_wp2_with fail
                go_ret
                exact ⟨ret_bool (by rw [HT.out]), rfl⟩
              · have HT : Hid (r = false) := Lib.hid (by rw [HN.out]; simp [e3])
                clear HN e1
                go_wp2_with fail
                go_ret
                exact ⟨ret_bool (by rw [HT.out]), rfl⟩
            · have HT : Hid (r = false) := Lib.hid (by rw [HN.out]; simp [e2])
              clear HN e1
              go_wp2_with fail
              go_ret
              exact ⟨ret_bool (by rw [HT.out]), rfl⟩
          · have b1 : ((m : Int) == (u.length : Int)) = false := by simp; omega
            have HT : Hid (r = false) := Lib.hid (by rw [HN.out]; simp [e1])
            clear HN e1
            go_wp2_with fail
            go_ret
            exact ⟨ret_bool (by rw [HT.out]), rfl⟩
/-- a token as the program's functions tell it: kind, text, size -/
abbrev tokV (x : Nat × Bs × Nat) : Value := .tuple #[.int .i64 x.1, .string ⟨x.2.1.toArray⟩, .int .i64 x.2.2]
theorem ret_tok {x : Nat × Bs × Nat} {k : Int} {t : Bs} {n : Int} (h : (k, t, n) = ((x.1 : Int), x.2.1, (x.2.2 : Int))) : Ending.returned (.tuple #[.int .i64 k, .string ⟨t.toArray⟩, .int .i64 n]) = .returned (tokV x) := by
  simp only [Prod.mk.injEq] at h
  obtain ⟨rfl, rfl, rfl⟩ := h
  rfl
set_option maxHeartbeats 800000 in
theorem word_any (l : Bs) (w : World) (hs : l.length ≤ maxLen) :
    Calls Tryd.prog 109 #[.string ⟨l.toArray⟩] w fun e w' => e = .returned (tokV (pWord l)) ∧ Below w.heap.size w w' := by
  have hN : pWord l = if pMark (l.take (runP isWord l)) then (4, l.take (runP isWord l), runP isWord l) else if dollars (l.take (runP isWord l)) = 0 then (3, l.take (runP isWord l), runP isWord l) else (0, [], 0) := rfl
  have HN := Lib.hid hN
  clear hN
  have hr := runP_le isWord l
  have hs' := hs
  unfold maxLen at hs'
  generalize pWord l = r at *
  go_enter Tryd.func109, Tryd.ntmps109
  go_wp2_with fail
  refine (runWord_any l w.heap.size _ hs (heap_alloc_new w _)).mono ?_
  rintro e w1 ⟨rfl, hb1, hbel⟩
  generalize runP isWord l = n at *
  have hc := cell_of_one hb1
  have HB : Below w.heap.size w w1 := ((Below.refl _ w).alloc (Nat.le_refl _) _).trans hbel
  have ht : (l.take n).length ≤ maxLen := by rw [List.length_take]; omega
  clear hb1 hbel
  go_wp2_with fail
  generalize l.take n = t at *
  refine (isMark_any t _ ht).mono ?_
  rintro e w' ⟨rfl, rfl⟩
  cases hm : pMark t
  · rw [hm, if_neg (by simp)] at HN
    by_cases hd : dollars t = 0
    · rw [if_pos hd] at HN
      have hd' : (((dollars t : Nat) : Int) == 0) = true := by simp; omega
      have HD := Lib.hid hd
      clear hd
      go_wp2_with fail
      go_ret3
      exact ⟨by rw [HN.out]; rfl, HB⟩
    · rw [if_neg hd] at HN
      have hd' : (((dollars t : Nat) : Int) == 0) = false := by simp; omega
      go_wp2_with fail
      go_ret3
      exact ⟨by rw [HN.out]; rfl, HB⟩
  · rw [hm, if_pos rfl] at HN
    go_wp2_with fail
    go_ret3
    exact ⟨by rw [HN.out]; rfl, HB⟩
end Go.Proofs.YtcgdeoldgnjdeaaDoor
