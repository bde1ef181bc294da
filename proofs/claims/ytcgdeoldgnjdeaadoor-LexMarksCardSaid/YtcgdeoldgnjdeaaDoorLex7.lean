/-
  lex.token: what it returns.
-/
import Derived.Test.YtcgdeoldgnjdeaaDoorLex6
import Derived.Test.YtcgdeoldgnjdeaaDoorPlainF
namespace Go.Proofs.YtcgdeoldgnjdeaaDoor
open Go.RowKit

def letter0 (l : Bs) : Bool := match l with | c :: _ => isLetter c | [] => false
theorem letter0_eq (l : Bs) (hp : 0 < l.length) : isLetter l[0] = letter0 l := by cases l with | nil => simp at hp | cons c l => rfl
/-- what a text that isn't empty begins with: kind, text, size; of size 0: none -/
def pToken (l : Bs) : Nat × Bs × Nat :=
  if 0 < pNumber l then (1, l.take (pNumber l), pNumber l)
  else if letter0 l || atIs l 0 95 || atIs l 0 36 then pWord l
  else if atIs l 0 34 then pQuoted l
  else if 0 < (pFaultB l).length then (6, pFaultB l, (pFaultB l).length)
  else if 0 < pSign l then (5, l.take (pSign l), pSign l)
  else (0, [], 0)
theorem sign_at (l : Bs) (w : World) (hp : 0 < l.length) :
    Calls Tryd.prog 112 #[.string ⟨l.toArray⟩] w fun e w' => e = .returned (.int .i64 (pSign l)) ∧ w = w' := by
  cases l with
  | nil => simp at hp
  | cons c l => exact sign_any c l w
theorem pSign_le (l : Bs) (hp : 0 < l.length) : pSign l ≤ l.length := by
  unfold pSign
  split
  case isTrue h =>
    cases l with
    | nil => simp at hp
    | cons c l =>
      cases l with
      | nil => simp [Lib.hasPrefix, List.isPrefixOf] at h
      | cons d l => simp
  case isFalse => split <;> omega

set_option maxHeartbeats 1600000 in
theorem token_any (l : Bs) (w : World) (hp : 0 < l.length) (hs : l.length ≤ 140737488351232) (ht : Tab w) :
    Calls Tryd.prog 66 #[.string ⟨l.toArray⟩] w fun e w' => e = .returned (tokV (pToken l)) ∧ Below w.heap.size w w' := by
  have hs1 : l.length ≤ maxLen := by unfold maxLen; omega
  have hnl := pNumber_le l
  have hsl := pSign_le l hp
  have hN : pToken l = if 0 < pNumber l then (1, l.take (pNumber l), pNumber l)
    else if letter0 l || atIs l 0 95 || atIs l 0 36 then pWord l
    else if atIs l 0 34 then pQuoted l
    else if 0 < (pFaultB l).length then (6, pFaultB l, (pFaultB l).length)
    else if 0 < pSign l then (5, l.take (pSign l), pSign l)
    else (0, [], 0) := rfl
  have HN := Lib.hid hN
  have HT := Lib.hid ht
  clear hN ht
  generalize pToken l = r at *
  go_enter Tryd.func66, Tryd.ntmps66
  go_wp2_with fail
  refine (number_any l _ hs1).mono ?_
  rintro e w' ⟨rfl, rfl⟩
  generalize pNumber l = n at *
  by_cases hn : 0 < n
  · have HR : Hid (r = (1, l.take n, n)) := Lib.hid (by rw [HN.out, if_pos hn])
    clear HN
    go_wp2_with fail
    go_quiet (fail)
    go_wp2_with fail
    go_ret3
    exact ⟨by rw [HR.out]; rfl, below_drewN (Below.refl _ _) _⟩
  · have HR := Lib.hid (HN.out.trans (if_neg hn))
    clear HN
    have e95 := at_beq l 0 95 95 rfl hp
    have e36 := at_beq l 0 36 36 rfl hp
    have e34 := at_beq l 0 34 34 rfl hp
    have hl0 := letter0_eq l hp
    go_upto_region 5 with fail
    go_cut [27] (fun v wx => v = .bool (letter0 l || atIs l 0 95 || atIs l 0 36) ∧ w = wx)
    case first =>
      go_wp2_with fail
      refine (isLetter_any _ _).mono ?_
      rintro e w' ⟨rfl, rfl⟩
      rw [hl0]
      clear hl0
      cases h1 : letter0 l <;> cases h2 : atIs l 0 95 <;> cases h3 : atIs l 0 36
      all_goals rw [h2] at e95; rw [h3] at e36
      all_goals go_wp2_with fail
      all_goals go_meet
      all_goals exact ⟨by first | rfl | (rw [h1, h2, h3]; rfl), rfl⟩
    case rest =>
      obtain ⟨rfl, rfl⟩ := hcut
      clear hl0 e95 e36
      cases hw : (letter0 l || atIs l 0 95 || atIs l 0 36)
      · have HR2 := Lib.hid (HR.out.trans (if_neg (by rw [hw]; decide)))
        clear HR
        cases h34 : atIs l 0 34
        · have HR3 := Lib.hid (HR2.out.trans (if_neg (by rw [h34]; decide)))
          clear HR2
          rw [h34] at e34
          go_wp2_with fail
          refine (faultOf_any l _ hp hs1 HT.out).mono ?_
          rintro e w1 ⟨rfl, hb1⟩
          have HB1 := Lib.hid hb1
          clear hb1
          generalize pFaultB l = f at *
          by_cases hf : 0 < f.length
          · have HR4 := Lib.hid (HR3.out.trans (if_pos hf))
            clear HR3
            go_wp2_with fail
            go_ret3
            exact ⟨by rw [HR4.out]; rfl, HB1.out⟩
          · have HR4 := Lib.hid (HR3.out.trans (if_neg hf))
            clear HR3
            go_wp2_with fail
            refine (sign_at l _ hp).mono ?_
            rintro e w' ⟨rfl, rfl⟩
            generalize pSign l = g at *
            by_cases hg : 0 < g
            · have HR5 := Lib.hid (HR4.out.trans (if_pos hg))
              clear HR4
              go_wp2_with fail
              go_quiet (fail)
              go_wp2_with fail
              go_ret3
              exact ⟨by rw [HR5.out]; rfl, below_drewN HB1.out _⟩
            · have HR5 := Lib.hid (HR4.out.trans (if_neg hg))
              clear HR4
              go_wp2_with fail
              go_ret3
              exact ⟨by rw [HR5.out]; rfl, HB1.out⟩
        · have HR3 := Lib.hid (HR2.out.trans (if_pos h34))
          clear HR2
          rw [h34] at e34
          go_wp2_with fail
          refine (quoted_any l _ hp hs).mono ?_
          rintro e w1 ⟨rfl, hb1⟩
          go_wp2_with fail
          go_ret3
          exact ⟨by rw [HR3.out]; rfl, hb1⟩
      · have HR2 := Lib.hid (HR.out.trans (if_pos hw))
        clear HR
        go_wp2_with fail
        refine (word_any l _ hs1).mono ?_
        rintro e w1 ⟨rfl, hb1⟩
        go_wp2_with fail
        go_ret3
        exact ⟨by rw [HR2.out]; rfl, hb1⟩
end Go.Proofs.YtcgdeoldgnjdeaaDoor
