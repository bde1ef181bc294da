/-
  counterpaneref05.word, IsName: what they return.
-/
import Derived.Test.YtcgdeoldgnjdeaaDoorRef3
import Derived.Test.YtcgdeoldgnjdeaaDoorLex7
namespace Go.Proofs.YtcgdeoldgnjdeaaDoor
open Go.RowKit

/-- how long the word is -/
def rWord (l : Bs) : Nat := if letter0 l || atIs l 0 95 || atIs l 0 36 then runP isWord l else 0
theorem u8_beq (c d : UInt8) (n : Int) (hn : (d.toNat : Int) = n) : ((c.toNat : Int) == n) = (c == d) := by
  subst hn
  rw [Bool.eq_iff_iff, beq_iff_eq, beq_iff_eq]
  constructor
  · intro h; exact u8_eq (by omega)
  · intro h; rw [h]
theorem u8_bne (c d : UInt8) (n : Int) (hn : (d.toNat : Int) = n) : ((c.toNat : Int) != n) = !(c == d) := by
  rw [← u8_beq c d n hn]; rfl
set_option maxRecDepth 100000 in
set_option maxHeartbeats 1600000 in
theorem rword_any (l : Bs) (w : World) (hs : l.length ≤ 1000000) :
    Calls Tryd.prog 114 #[.string ⟨l.toArray⟩] w fun e w' => e = .returned (.int .i64 (rWord l)) ∧ w = w' := by
  have hN : rWord l = if letter0 l || atIs l 0 95 || atIs l 0 36 then runP isWord l else 0 := rfl
  have HN := Lib.hid hN
  clear hN
  generalize rWord l = r at *
  go_enter Tryd.func114, Tryd.ntmps114
  go_upto_region 1 with fail
  go_cut [21] (fun v wx => v = .bool (!(letter0 l || atIs l 0 95 || atIs l 0 36)) ∧ w = wx)
  case first =>
    by_cases hp : 0 < l.length
    · have hem : l.isEmpty = false := by cases l with | nil => simp at hp | cons c l => rfl
      have hl0 := letter0_eq l hp
      have e95 := at_bne l 0 95 95 rfl hp
      have e36 := at_bne l 0 36 36 rfl hp
      go_wp2_with fail
      refine (rletter_any _ _).mono ?_
      rintro e w' ⟨rfl, rfl⟩
      rw [hl0]
      clear hl0
      cases h1 : letter0 l <;> cases h2 : atIs l 0 95 <;> cases h3 : atIs l 0 36
      all_goals rw [h2] at e95; rw [h3] at e36
      all_goals go_wp2_with fail
      all_goals go_meet
      all_goals exact ⟨by first | rfl | (rw [h1, h2, h3]; rfl), rfl⟩
    · obtain rfl : l = [] := List.eq_nil_of_length_eq_zero (by omega)
      go_wp2_with fail
      go_meet
      exact ⟨rfl, rfl⟩
  case rest =>
    obtain ⟨rfl, rfl⟩ := hcut
    cases hw : (letter0 l || atIs l 0 95 || atIs l 0 36)
    · rw [hw] at HN
      go_wp2_with fail
      go_ret
      exact ⟨ret_int (by rw [HN.out]; rfl), rfl⟩
    · rw [hw, if_pos rfl] at HN
      go_wp2_with fail
      go_loopg [3] (l.length) (fun g i wr => ∃ k : Nat, k ≤ l.length ∧ g = l.length - k ∧ i = .int .i64 k ∧ k ≤ runP isWord l ∧ w = wr)
      case atStart => exact ⟨0, Nat.zero_le _, rfl, rfl, Nat.zero_le _, rfl⟩
      case round =>
        obtain ⟨k, hk, rfl, rfl, hr, rfl⟩ := hrel
        by_cases hlt : k < l.length
        · go_upto_region 4 with fail
          go_cut [55] (fun v wx => v = .bool (isWord l[k]) ∧ w = wx)
          case first =>
            have e1 := u8_beq l[k] 95 95 rfl
            have e2 := u8_beq l[k] 46 46 rfl
            have e3 := u8_beq l[k] 36 36 rfl
            have hcc : isWord l[k] = (isLetter l[k] || isDigit l[k] || l[k] == 95 || l[k] == 46 || l[k] == 36) := rfl
            have HC := Lib.hid hcc
            clear hcc
            cases h1 : isLetter l[k]
            · cases h2 : isDigit l[k]
              · cases h3 : (l[k] == 95)
                · cases h4 : (l[k] == 46)
                  · cases h5 : (l[k] == 36)
                    all_goals rw [h3] at e1; rw [h4] at e2; rw [h5] at e3
                    all_goals go_wp2_with (first | (go_at_call 149; refine (rletter_any _ _).mono ?_; rintro e w' ⟨rfl, rfl⟩) | (go_at_call 148; refine (rdigit_any _ _).mono ?_; rintro e w' ⟨rfl, rfl⟩))
                    all_goals go_meet
                    all_goals exact ⟨by rw [HC.out, h1, h2, h3, h4, h5]; rfl, rfl⟩
                  · rw [h3] at e1; rw [h4] at e2
                    go_wp2_with (first | (go_at_call 149; refine (rletter_any _ _).mono ?_; rintro e w' ⟨rfl, rfl⟩) | (go_at_call 148; refine (rdigit_any _ _).mono ?_; rintro e w' ⟨rfl, rfl⟩))
                    go_meet
                    exact ⟨by rw [HC.out, h1, h2, h3, h4]; rfl, rfl⟩
                · rw [h3] at e1
                  go_wp2_with (first | (go_at_call 149; refine (rletter_any _ _).mono ?_; rintro e w' ⟨rfl, rfl⟩) | (go_at_call 148; refine (rdigit_any _ _).mono ?_; rintro e w' ⟨rfl, rfl⟩))
                  go_meet
                  exact ⟨by rw [HC.out, h1, h2, h3]; rfl, rfl⟩
              · go_wp2_with (first | (go_at_call 149; refine (rletter_any _ _).mono ?_; rintro e w' ⟨rfl, rfl⟩) | (go_at_call 148; refine (rdigit_any _ _).mono ?_; rintro e w' ⟨rfl, rfl⟩))
                go_meet
                exact ⟨by rw [HC.out, h1, h2]; rfl, rfl⟩
            · go_wp2_with (first | (go_at_call 149; refine (rletter_any _ _).mono ?_; rintro e w' ⟨rfl, rfl⟩) | (go_at_call 148; refine (rdigit_any _ _).mono ?_; rintro e w' ⟨rfl, rfl⟩))
              go_meet
              exact ⟨by rw [HC.out, h1]; rfl, rfl⟩
          case rest =>
            obtain ⟨rfl, rfl⟩ := hcut
            cases hd : isWord l[k]
            · have HQ := Lib.hid (runP_eq _ _ _ hr hlt hd)
              go_wp2_with fail
              go_ret
              exact ⟨ret_int (by rw [HN.out, HQ.out]), rfl⟩
            · have hq := runP_step _ _ _ hr hlt hd
              go_wp2_with fail
              go_roundg (l.length - (k + 1))
              case measure => omega
              case rel => exact ⟨k + 1, by omega, rfl, by go_num, hq, rfl⟩
        · have hq : runP isWord l = k := by have := runP_le isWord l; omega
          have HQ := Lib.hid hq
          clear hq
          go_wp2
          go_ret
          exact ⟨ret_int (by rw [HN.out, HQ.out]), rfl⟩
end Go.Proofs.YtcgdeoldgnjdeaaDoor
