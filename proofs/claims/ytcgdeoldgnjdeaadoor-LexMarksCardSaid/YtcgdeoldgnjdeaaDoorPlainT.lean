/-
  Plain law: any bytes in quotes, with each quote twice, are one text, which means them.
-/
import Derived.Test.YtcgdeoldgnjdeaaDoorPlainL
namespace Go.Proofs.YtcgdeoldgnjdeaaDoor
open Go.RowKit

def quoteB : Bs → Bs
  | [] => []
  | c :: l => if c = 34 then 34 :: 34 :: quoteB l else c :: quoteB l
theorem quoteB_app (a b : Bs) : quoteB (a ++ b) = quoteB a ++ quoteB b := by
  induction a with
  | nil => rfl
  | cons c a ih => simp only [List.cons_append, quoteB]; split <;> simp [ih]
theorem quoteB_len (a : Bs) : (quoteB a).length ≤ 2 * a.length := by
  induction a with
  | nil => simp [quoteB]
  | cons c a ih => simp only [quoteB]; split <;> simp only [List.length_cons] <;> omega
theorem pText_quote (b r : Bs) (h : ∀ x, r ≠ 34 :: x) : pText (quoteB b ++ 34 :: r) = some (b, (quoteB b).length + 1) := by
  induction b with
  | nil => exact pText_end r h
  | cons c b ih =>
    simp only [quoteB]
    split
    case isTrue e =>
      subst e
      rw [List.cons_append, List.cons_append, pText_two, ih]
      simp
    case isFalse e =>
      rw [List.cons_append, pText_other _ _ e, ih]
      simp
theorem pText_open (b : Bs) : pText (quoteB b) = none := by
  induction b with
  | nil => rfl
  | cons c b ih =>
    simp only [quoteB]
    split
    case isTrue e => rw [pText_two, ih]; rfl
    case isFalse e => rw [pText_other _ _ e, ih]; rfl
theorem runP_cons_no (p : UInt8 → Bool) (c : UInt8) (l : Bs) (h : p c = false) : runP p (c :: l) = 0 := by simp [runP, h]
theorem atIs_cons (c : UInt8) (l : Bs) (d : UInt8) : atIs (c :: l) 0 d = (c == d) := by
  unfold atIs
  simp
theorem pNumber_none (c : UInt8) (l : Bs) (h : isDigit c = false) (h46 : c ≠ 46) : pNumber (c :: l) = 0 := by
  have e : pNumA (c :: l) = 0 := by
    unfold pNumA
    rw [runP_cons_no _ _ _ h, atIs_cons]
    have : (c == 46) = false := by rw [beq_eq_false_iff_ne]; exact h46
    rw [this]
    rfl
  unfold pNumber pNumE
  rw [e]
  rfl
theorem pToken_quote (l : Bs) : pToken (34 :: l) = pQuoted (34 :: l) := by
  unfold pToken
  rw [pNumber_none 34 l rfl (by decide), if_neg (by omega)]
  simp only [atIs_cons]
  rfl
theorem pLex_quote (b : Bs) : pLex (34 :: (quoteB b ++ [34])) = .ok [⟨2, b, 0⟩] := by
  have e : pToken (34 :: (quoteB b ++ [34])) = (2, b, (quoteB b).length + 2) := by
    rw [pToken_quote]
    unfold pQuoted
    rw [List.drop_succ_cons, List.drop_zero, pText_quote b [] (by intro x h; cases h)]
  unfold pLex
  rw [lexFrom_tok _ _ _ (by decide) (by rw [e]; simp), e]
  simp only
  rw [List.drop_of_length_le (by simp), lexFrom_nil]
  rfl
theorem pLex_open (b : Bs) : pLex (34 :: quoteB b) = .error 0 := by
  have e : pToken (34 :: quoteB b) = (0, [], 0) := by
    rw [pToken_quote]
    unfold pQuoted
    rw [List.drop_succ_cons, List.drop_zero, pText_open]
  unfold pLex
  rw [lexFrom_bad _ _ _ (by decide) (by rw [e])]
end Go.Proofs.YtcgdeoldgnjdeaaDoor
