/-
  lex.isDigit, isLetter, run: what they return.
-/
import Derived.Test.YtcgdeoldgnjdeaaDoorKit
import Derived.Test.YtcgdeoldgnjdeaaDoorPlain2
namespace Go.Proofs.YtcgdeoldgnjdeaaDoor
open Go.RowKit

set_option maxHeartbeats 400000 in
theorem isDigit_any (c : UInt8) (w : World) :
    Calls Tryd.prog 145 #[.int .u8 (c.toNat : Int)] w fun e w' => e = .returned (.bool (isDigit c)) ∧ w = w' := by
  go_enter Tryd.func145, Tryd.ntmps145
  go_wp2
  all_goals go_ret
  all_goals exact ⟨ret_bool (by unfold isDigit; rw [Bool.eq_iff_iff]; simp; omega), rfl⟩
set_option maxHeartbeats 400000 in
theorem isLetter_any (c : UInt8) (w : World) :
    Calls Tryd.prog 108 #[.int .u8 (c.toNat : Int)] w fun e w' => e = .returned (.bool (isLetter c)) ∧ w = w' := by
  go_enter Tryd.func108, Tryd.ntmps108
  go_wp2
  all_goals go_ret
  all_goals exact ⟨ret_bool (by unfold isLetter; rw [Bool.eq_iff_iff]; simp; omega), rfl⟩

set_option maxHeartbeats 400000 in
theorem runDigit_any (l : Bs) (w : World) (hs : l.length ≤ maxLen) :
    Calls Tryd.prog 144 #[.string ⟨l.toArray⟩, .func (.func 145) #[] #[]] w fun e w' => e = .returned (.int .i64 (runP isDigit l)) ∧ w = w' := by
  unfold maxLen at hs
  go_enter Tryd.func144, Tryd.ntmps144
  go_wp2
  go_loop [5] (fun i => ∃ k : Nat, k ≤ l.length ∧ i = .int .i64 k ∧ k ≤ runP isDigit l) (fun i => l.length - (intOf i).toNat)
  case atStart => exact ⟨0, Nat.zero_le _, rfl, Nat.zero_le _⟩
  case round =>
    obtain ⟨k, hk, rfl, hr⟩ := hrel
    by_cases hlt : k < l.length
    · cases hd : isDigit l[k]
      · have HQ := Lib.hid (runP_eq _ _ _ hr hlt hd)
        go_wp2_with (go_at_call 145; refine (isDigit_any _ _).mono ?_; rintro e w' ⟨rfl, rfl⟩)
        go_ret
        exact ⟨ret_int (by rw [HQ.out]), rfl⟩
      · have hq := runP_step _ _ _ hr hlt hd
        go_wp2_with (go_at_call 145; refine (isDigit_any _ _).mono ?_; rintro e w' ⟨rfl, rfl⟩)
        go_round
        case rel => exact ⟨k + 1, by omega, by go_num, hq⟩
        case measure => simp [intOf]; omega
    · have hq : runP isDigit l = k := by have := runP_le isDigit l; omega
      have HQ := Lib.hid hq
      clear hq
      go_wp2
      go_ret
      exact ⟨ret_int (by rw [HQ.out]), rfl⟩
set_option maxHeartbeats 400000 in
theorem runLetter_any (l : Bs) (w : World) (hs : l.length ≤ maxLen) :
    Calls Tryd.prog 144 #[.string ⟨l.toArray⟩, .func (.func 108) #[] #[]] w fun e w' => e = .returned (.int .i64 (runP isLetter l)) ∧ w = w' := by
  unfold maxLen at hs
  go_enter Tryd.func144, Tryd.ntmps144
  go_wp2
  go_loop [5] (fun i => ∃ k : Nat, k ≤ l.length ∧ i = .int .i64 k ∧ k ≤ runP isLetter l) (fun i => l.length - (intOf i).toNat)
  case atStart => exact ⟨0, Nat.zero_le _, rfl, Nat.zero_le _⟩
  case round =>
    obtain ⟨k, hk, rfl, hr⟩ := hrel
    by_cases hlt : k < l.length
    · cases hd : isLetter l[k]
      · have HQ := Lib.hid (runP_eq _ _ _ hr hlt hd)
        go_wp2_with (go_at_call 108; refine (isLetter_any _ _).mono ?_; rintro e w' ⟨rfl, rfl⟩)
        go_ret
        exact ⟨ret_int (by rw [HQ.out]), rfl⟩
      · have hq := runP_step _ _ _ hr hlt hd
        go_wp2_with (go_at_call 108; refine (isLetter_any _ _).mono ?_; rintro e w' ⟨rfl, rfl⟩)
        go_round
        case rel => exact ⟨k + 1, by omega, by go_num, hq⟩
        case measure => simp [intOf]; omega
    · have hq : runP isLetter l = k := by have := runP_le isLetter l; omega
      have HQ := Lib.hid hq
      clear hq
      go_wp2
      go_ret
      exact ⟨ret_int (by rw [HQ.out]), rfl⟩

end Go.Proofs.YtcgdeoldgnjdeaaDoor
