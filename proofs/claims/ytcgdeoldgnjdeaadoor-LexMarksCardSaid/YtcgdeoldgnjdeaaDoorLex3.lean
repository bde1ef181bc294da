/-
  lex.word's closure, and run with it: what they return.
-/
import Derived.Test.YtcgdeoldgnjdeaaDoorLex2
import Derived.Test.YtcgdeoldgnjdeaaDoorPlain3
import Derived.Test.YtcgdeoldgnjdeaaDoorShelf
import Derived.OneCell
namespace Go.Proofs.YtcgdeoldgnjdeaaDoor
open Go.RowKit

set_option maxHeartbeats 400000 in
theorem word1_other (c : UInt8) (a : Addr) (w : World) (h36 : ((c.toNat : Int) == 36) = false) :
    Calls Tryd.prog 146 #[.int .u8 (c.toNat : Int), .pointer (some a)] w fun e w' => e = .returned (.bool (isWord c)) ∧ w = w' := by
  have e95 : ((c.toNat : Int) == 95) = (c == 95) := by rw [Bool.eq_iff_iff, beq_iff_eq, beq_iff_eq]; exact ⟨fun h => u8_eq (by simpa using (by omega : c.toNat = 95)), fun h => by rw [h]; rfl⟩
  have e46 : ((c.toNat : Int) == 46) = (c == 46) := by rw [Bool.eq_iff_iff, beq_iff_eq, beq_iff_eq]; exact ⟨fun h => u8_eq (by simpa using (by omega : c.toNat = 46)), fun h => by rw [h]; rfl⟩
  have e36 : (c == 36) = false := by rw [beq_eq_false_iff_ne]; intro h; rw [h] at h36; cases h36
  have hw : isWord c = (isLetter c || isDigit c || c == 95 || c == 46) := by unfold isWord; rw [e36, Bool.or_false]
  have HW := Lib.hid hw
  clear hw
  go_enter Tryd.func146, Tryd.ntmps146
  cases h1 : isLetter c <;> cases h2 : isDigit c <;> cases h3 : (c == 95) <;> cases h4 : (c == 46)
  all_goals rw [h3] at e95; rw [h4] at e46
  all_goals go_wp2_with (first | (go_at_call 108; refine (isLetter_any _ _).mono ?_; rintro e w' ⟨rfl, rfl⟩) | (go_at_call 145; refine (isDigit_any _ _).mono ?_; rintro e w' ⟨rfl, rfl⟩))
  all_goals go_ret
  all_goals exact ⟨ret_bool (by rw [HW.out, h1, h2, h3, h4]; rfl), rfl⟩
set_option maxHeartbeats 400000 in
theorem word1_dollar (b n : Nat) (w : World) (hc : w.cell? ⟨b, 0, none⟩ = some (.int .i64 n)) (hf : w.frozen? ⟨b, 0, none⟩ = false) (hn : n < 9223372036854775807) :
    Calls Tryd.prog 146 #[.int .u8 36, .pointer (some ⟨b, 0, none⟩)] w fun e w' => e = .returned (.bool true) ∧ w.setCell ⟨b, 0, none⟩ (.int .i64 (n + 1 : Nat)) = w' := by
  have h1 : isLetter 36 = false := rfl
  have h2 : isDigit 36 = false := rfl
  go_enter Tryd.func146, Tryd.ntmps146
  go_wp2_with (first | (go_at_call 108; refine (isLetter_any 36 _).mono ?_; rintro e w' ⟨rfl, rfl⟩) | (go_at_call 145; refine (isDigit_any 36 _).mono ?_; rintro e w' ⟨rfl, rfl⟩))
  go_ret
  exact ⟨rfl, by simp⟩
set_option maxHeartbeats 800000 in
theorem runWord_any (l : Bs) (b : Nat) (w : World) (hs : l.length ≤ maxLen) (hb : w.heap[b]? = some (.cells #[.int .i64 0] 3 (0, 0))) :
    Calls Tryd.prog 144 #[.string ⟨l.toArray⟩, .func (.func 146) #[] #[.pointer (some ⟨b, 0, none⟩)]] w fun e w' => e = .returned (.int .i64 (runP isWord l)) ∧ w'.heap[b]? = some (.cells #[.int .i64 (dollars (l.take (runP isWord l)) : Nat)] 3 (0, 0)) ∧ Below b w w' := by
  unfold maxLen at hs
  go_enter Tryd.func144, Tryd.ntmps144
  go_wp2
  go_loopw [5] (fun i wr => ∃ k : Nat, k ≤ l.length ∧ i = .int .i64 k ∧ k ≤ runP isWord l ∧ wr.heap[b]? = some (.cells #[.int .i64 (dollars (l.take k) : Nat)] 3 (0, 0)) ∧ Below b w wr) (fun i _ => l.length - (intOf i).toNat)
  case atStart => exact ⟨0, Nat.zero_le _, rfl, Nat.zero_le _, hb, Below.refl _ _⟩
  case round =>
    obtain ⟨k, hk, rfl, hr, hbk, hbel⟩ := hrel
    clear hb
    have HB := Lib.hid hbk
    have hc := cell_of_one hbk
    have hf := free_of_one hbk
    have hd := dollars_le (l.take k)
    rw [List.length_take, Nat.min_eq_left hk] at hd
    clear hbk
    by_cases hlt : k < l.length
    · have hsn : dollars (l.take (k + 1)) = dollars (l.take k) + if l[k] == 36 then 1 else 0 := by rw [List.take_succ_eq_append_getElem hlt, dollars_snoc]
      have HS := Lib.hid hsn
      clear hsn
      generalize hn : dollars (l.take k) = n at *
      have HN := Lib.hid hn
      clear hn
      cases h36 : ((l[k].toNat : Int) == 36)
      · have hw : Hid (dollars (l.take (k + 1)) = n) := Lib.hid (by
          rw [HS.out, if_neg]
          · rfl
          · intro h
            have := eq_of_beq h
            rw [this] at h36
            cases h36)
        cases hd : isWord l[k]
        · have HQ := Lib.hid (runP_eq _ _ _ hr hlt hd)
          go_wp2_with (go_at_call 146; refine (word1_other _ _ _ h36).mono ?_; rintro e w' ⟨rfl, rfl⟩)
          go_ret
          exact ⟨ret_int (by rw [HQ.out]), by rw [HQ.out, HN.out]; exact HB.out, hbel⟩
        · have hq := runP_step _ _ _ hr hlt hd
          go_wp2_with (go_at_call 146; refine (word1_other _ _ _ h36).mono ?_; rintro e w' ⟨rfl, rfl⟩)
          go_roundw
          case rel => exact ⟨k + 1, by omega, by go_num, hq, by rw [hw.out]; exact HB.out, hbel⟩
          case measure => simp [intOf]; omega
      · have h36' : l[k].toNat = 36 := by have := eq_of_beq h36; omega
        have hw : Hid (dollars (l.take (k + 1)) = n + 1) := Lib.hid (by rw [HS.out, u8_eq (c := l[k]) (d := 36) h36']; rfl)
        have hq := runP_step _ _ _ hr hlt (by rw [u8_eq (c := l[k]) (d := 36) h36']; rfl)
        go_wp2_with (go_at_call 146; refine (word1_dollar _ n _ hc hf (by omega)).mono ?_; rintro e w' ⟨rfl, rfl⟩)
        go_roundw
        case rel => exact ⟨k + 1, by omega, by go_num, hq, by rw [hw.out]; exact one_setCell HB.out, hbel.setCell (p := ⟨b, 0, none⟩) (Nat.le_refl _) _⟩
        case measure => simp [intOf]; omega
    · have hq : runP isWord l = k := by have := runP_le isWord l; omega
      have HQ := Lib.hid hq
      clear hq
      go_wp2
      go_ret
      exact ⟨ret_int (by rw [HQ.out]), by rw [HQ.out]; exact HB.out, hbel⟩

end Go.Proofs.YtcgdeoldgnjdeaaDoor
