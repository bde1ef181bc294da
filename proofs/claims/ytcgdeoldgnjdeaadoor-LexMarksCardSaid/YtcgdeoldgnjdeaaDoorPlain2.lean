/-
  Plain words: what lex does to bytes.
-/
import Derived.Test.YtcgdeoldgnjdeaaDoorPl1
namespace Go.Proofs.YtcgdeoldgnjdeaaDoor
open Go.RowKit

/-- digits, and a point with digits behind it -/
def pNumA (l : Bs) : Nat := if atIs l (runP isDigit l) 46 && decide (0 < runP isDigit (l.drop (runP isDigit l + 1))) then runP isDigit l + 1 + runP isDigit (l.drop (runP isDigit l + 1)) else runP isDigit l
/-- where the power's digits begin -/
def pPow (l : Bs) (b : Nat) : Nat := if atIs l (b + 1) 43 || atIs l (b + 1) 45 then b + 1 + 1 else b + 1
/-- a power behind that -/
def pNumE (l : Bs) (b : Nat) : Nat :=
  if b = 0 ∨ (atIs l b 101 = false ∧ atIs l b 69 = false) then b
  else if 0 < runP isDigit (l.drop (pPow l b)) then pPow l b + runP isDigit (l.drop (pPow l b)) else b
def pNumber (l : Bs) : Nat := pNumE l (pNumA l)
theorem pPow_le (l : Bs) (b : Nat) (h : b < l.length) : pPow l b ≤ l.length := by
  unfold pPow
  split
  case isTrue h1 =>
    rcases Bool.or_eq_true_iff.1 h1 with h1 | h1
    all_goals have := at_lt _ _ _ h1
    all_goals omega
  case isFalse => omega
theorem pNumA_le (l : Bs) : pNumA l ≤ l.length := by
  unfold pNumA
  have h1 := runP_le isDigit l
  have h2 := runP_le isDigit (l.drop (runP isDigit l + 1))
  rw [List.length_drop] at h2
  split
  case isTrue h => simp only [Bool.and_eq_true, decide_eq_true_eq] at h; omega
  case isFalse => exact h1
theorem pNumber_le (l : Bs) : pNumber l ≤ l.length := by
  unfold pNumber pNumE
  have h0 := pNumA_le l
  have h2 := runP_le isDigit (l.drop (pPow l (pNumA l)))
  rw [List.length_drop] at h2
  split
  · exact h0
  · split <;> omega

end Go.Proofs.YtcgdeoldgnjdeaaDoor
