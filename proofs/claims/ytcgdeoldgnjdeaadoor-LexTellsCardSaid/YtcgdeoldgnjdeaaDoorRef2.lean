/-
  counterpaneref05.number, word: what they return.
-/
import Derived.Test.YtcgdeoldgnjdeaaDoorRef1
namespace Go.Proofs.YtcgdeoldgnjdeaaDoor
open Go.RowKit

/-- how far the search for the longest number has come -/
def NInv (l : Bs) (best m : Nat) : Prop := best ≤ pNumber l ∧ (pNumber l ≤ m → best = pNumber l)
theorem NInv.start (l : Bs) : NInv l 0 0 := ⟨Nat.zero_le _, fun h => by omega⟩
theorem NInv.yes {l : Bs} {best m : Nat} (h : NInv l best m) (hm : m < l.length) (hy : rIsNumber (l.take (m + 1)) = true) : NInv l (m + 1) (m + 1) := by
  rw [rIsNumber_eq] at hy
  simp only [Bool.and_eq_true, decide_eq_true_eq, List.length_take] at hy
  have := number_take_le l (m + 1) (by omega)
  have := h.1
  exact ⟨by omega, fun h2 => by omega⟩
theorem NInv.no {l : Bs} {best m : Nat} (h : NInv l best m) (hm : m < l.length) (hy : rIsNumber (l.take (m + 1)) = false) : NInv l best (m + 1) := by
  refine ⟨h.1, fun h2 => ?_⟩
  rcases Nat.eq_or_lt_of_le h2 with h3 | h3
  · exfalso
    rw [rIsNumber_eq, ← h3, number_take_self, List.length_take] at hy
    have := pNumber_le l
    rw [show min (pNumber l) l.length = pNumber l by omega] at hy
    simp at hy
    omega
  · exact h.2 (by omega)
theorem NInv.stop {l : Bs} {best m : Nat} (h : NInv l best m) (hm : m < l.length) (hc : isNumC l[m] = false) : best = pNumber l := by
  apply h.2
  rcases Nat.lt_or_ge m (pNumber l) with h1 | h1
  · rw [number_chars l m h1 hm] at hc; cases hc
  · exact h1
theorem NInv.done {l : Bs} {best m : Nat} (h : NInv l best m) (hm : ¬ m < l.length) : best = pNumber l := h.2 (by have := pNumber_le l; omega)

set_option maxRecDepth 100000 in
set_option maxHeartbeats 1600000 in
theorem rnumber_any (l : Bs) (w : World) (hs : l.length ≤ 1000000) :
    Calls Tryd.prog 113 #[.string ⟨l.toArray⟩] w fun e w' => e = .returned (.int .i64 (pNumber l)) ∧ w = w' := by
  go_enter Tryd.func113, Tryd.ntmps113
  go_wp2_with fail
  go_loopg [3, 4] (l.length) (fun g b i wr => ∃ m best : Nat, m ≤ l.length ∧ g = l.length - m ∧ b = .int .i64 best ∧ i = .int .i64 ((m : Int) + 1) ∧ Hid (NInv l best m) ∧ w = wr)
  case atStart => exact ⟨0, 0, Nat.zero_le _, rfl, rfl, rfl, Lib.hid (NInv.start l), rfl⟩
  case round =>
    obtain ⟨m, best, hm, rfl, rfl, rfl, hq, rfl⟩ := hrel
    by_cases hlt : m < l.length
    · have hlt' : (m : Int) + 1 ≤ (l.length : Int) := by omega
      go_upto_region 6 with fail
      go_cut [38] (fun v wx => v = .bool (!isNumC l[m]) ∧ w = wx)
      case first =>
        have hcc : isNumC l[m] = (isDigit l[m] || l[m] == 46 || l[m] == 101 || l[m] == 69 || l[m] == 43 || l[m] == 45) := rfl
        have bn : ∀ d : UInt8, ∀ n : Int, (d.toNat : Int) = n → ((l[m].toNat : Int) != n) = !(l[m] == d) := by
          intro d n hn
          subst hn
          rw [Bool.eq_iff_iff]
          simp only [bne_iff_ne, ne_eq, Bool.not_eq_true', beq_eq_false_iff_ne]
          constructor
          · intro h e; apply h; rw [e]
          · intro h e; exact h (u8_eq (by omega))
        have e1 := bn 46 46 rfl
        have e2 := bn 101 101 rfl
        have e3 := bn 69 69 rfl
        have e4 := bn 43 43 rfl
        have e5 := bn 45 45 rfl
        have HC := Lib.hid hcc
        clear bn hcc
        cases h1 : isDigit l[m]
        · cases h2 : (l[m] == 46)
          · cases h3 : (l[m] == 101)
            · cases h4 : (l[m] == 69)
              · cases h5 : (l[m] == 43)
                · cases h6 : (l[m] == 45)
                  all_goals rw [h2] at e1; rw [h3] at e2; rw [h4] at e3; rw [h5] at e4; rw [h6] at e5
                  all_goals go_wp2_with (go_at_call 148; refine (rdigit_any _ _).mono ?_; rintro e w' ⟨rfl, rfl⟩)
                  all_goals go_meet
                  all_goals exact ⟨by rw [HC.out, h1, h2, h3, h4, h5, h6]; rfl, rfl⟩
                · rw [h2] at e1; rw [h3] at e2; rw [h4] at e3; rw [h5] at e4
                  go_wp2_with (go_at_call 148; refine (rdigit_any _ _).mono ?_; rintro e w' ⟨rfl, rfl⟩)
                  go_meet
                  exact ⟨by rw [HC.out, h1, h2, h3, h4, h5]; rfl, rfl⟩
              · rw [h2] at e1; rw [h3] at e2; rw [h4] at e3
                go_wp2_with (go_at_call 148; refine (rdigit_any _ _).mono ?_; rintro e w' ⟨rfl, rfl⟩)
                go_meet
                exact ⟨by rw [HC.out, h1, h2, h3, h4]; rfl, rfl⟩
            · rw [h2] at e1; rw [h3] at e2
              go_wp2_with (go_at_call 148; refine (rdigit_any _ _).mono ?_; rintro e w' ⟨rfl, rfl⟩)
              go_meet
              exact ⟨by rw [HC.out, h1, h2, h3]; rfl, rfl⟩
          · rw [h2] at e1
            go_wp2_with (go_at_call 148; refine (rdigit_any _ _).mono ?_; rintro e w' ⟨rfl, rfl⟩)
            go_meet
            exact ⟨by rw [HC.out, h1, h2]; rfl, rfl⟩
        · go_wp2_with (go_at_call 148; refine (rdigit_any _ _).mono ?_; rintro e w' ⟨rfl, rfl⟩)
          go_meet
          exact ⟨by rw [HC.out, h1]; rfl, rfl⟩
      case rest =>
        obtain ⟨rfl, rfl⟩ := hcut
        cases hc : isNumC l[m]
        · have hd := Lib.hid (hq.out.stop hlt hc)
          go_wp2_with fail
          go_ret
          exact ⟨ret_int (by rw [hd.out]), rfl⟩
        · go_wp2_with fail
          refine (isNumber_any (l.take (m + 1)) _ (by rw [List.length_take]; omega)).mono ?_
          rintro e w' ⟨rfl, rfl⟩
          cases hy : rIsNumber (l.take (m + 1))
          · have hd := Lib.hid (hq.out.no hlt hy)
            go_wp2_with fail
            go_roundg (l.length - (m + 1))
            case measure => omega
            case rel => exact ⟨m + 1, best, by omega, rfl, rfl, by go_num, hd, rfl⟩
          · have hd := Lib.hid (hq.out.yes hlt hy)
            go_wp2_with fail
            go_roundg (l.length - (m + 1))
            case measure => omega
            case rel => exact ⟨m + 1, m + 1, by omega, rfl, by go_num, by go_num, hd, rfl⟩
    · have hd := Lib.hid (hq.out.done hlt)
      have hge : (l.length : Int) < (m : Int) + 1 := by omega
      go_wp2_with fail
      go_ret
      exact ⟨ret_int (by rw [hd.out]), rfl⟩
end Go.Proofs.YtcgdeoldgnjdeaaDoor
