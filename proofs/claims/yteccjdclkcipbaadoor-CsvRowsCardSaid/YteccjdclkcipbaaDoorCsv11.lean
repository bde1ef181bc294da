/-
  The rows that the iterator hands over are those of the list.
-/
import Derived.Test.YteccjdclkcipbaaDoorCsv5
import Derived.Test.YteccjdclkcipbaaDoorCsv10
namespace Go.Proofs.YteccjdclkcipbaaDoor

theorem cRs_step (s : Bs) : cRs s = if s = [] then [] else if (cLine s []).2.2 ≠ 0 then [] else (cLine s []).1 :: cRs (cLine s []).2.1 := by
  unfold cRs
  rw [cLines_step]
  by_cases h0 : s = []
  · rw [if_pos h0, if_pos h0]; rfl
  · rw [if_neg h0, if_neg h0]
    by_cases he : (cLine s []).2.2 ≠ 0
    · rw [if_pos he, if_pos he, List.filter_cons, if_neg (by simpa using he)]
      rfl
    · rw [if_neg he, if_neg he, List.filter_cons, if_pos (by simp)]
      rfl
theorem cRows_rs : ∀ (n : Nat) (s : Bs) (acc : List (List Bs)), s.length ≤ n → (cRows s acc).1 = acc ++ cRs s := by
  intro n
  induction n with
  | zero =>
    intro s acc hs
    obtain rfl := List.eq_nil_of_length_eq_zero (by omega : s.length = 0)
    rw [cRows_step, if_pos rfl, cRs_step, if_pos rfl, List.append_nil]
  | succ n ih =>
    intro s acc hs
    rw [cRows_step, cRs_step]
    by_cases h0 : s = []
    · rw [if_pos h0, if_pos h0, List.append_nil]
    · rw [if_neg h0, if_neg h0]
      by_cases he : (cLine s []).2.2 ≠ 0
      · rw [if_pos he, if_pos he, List.append_nil]
      · rw [if_neg he, if_neg he]
        have hl := (cLine_len s.length s [] (Nat.le_refl _) (Decidable.not_not.1 he)).1
        rw [ih _ _ (by omega), List.append_assoc]
        rfl
end Go.Proofs.YteccjdclkcipbaaDoor
