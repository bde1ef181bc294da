/-
  Plain words: numbers, words, marks, signs, quoted texts, as lex reads them (merged: Plain2, Plain3, PlainQ).
-/
import Derived.Test.YtpdaloohgfnbhaaGreatDoorPl1
import Derived.Lib.Strings
import Derived.Lib.Bytealg
namespace Go.Proofs.YtpdaloohgfnbhaaGreatDoor
open Go.RowKit

/-- digits, and a point with digits behind it -/
def pNumA (l : Bs) : Nat := if atIs l (runP isDigit l) 46 && decide (0 < runP isDigit (l.drop (runP isDigit l + 1))) then runP isDigit l + 1 + runP isDigit (l.drop (runP isDigit l + 1)) else runP isDigit l
/-- where the power's digits begin -/
def pPow (l : Bs) (b : Nat) : Nat := if atIs l (b + 1) 43 || atIs l (b + 1) 45 then b + 1 + 1 else b + 1
/-- a power behind that -/
def pNumE (l : Bs) (b : Nat) : Nat :=
  if b = 0 ∨ (atIs l b 101 = false ∧ atIs l b 69 = false) then b
  else if 0 < runP isDigit (l.drop (pPow l b)) then pPow l b + runP isDigit (l.drop (pPow l b)) else b
def pNumber (l : Bs) : Nat := pNumE l (pNumA l)
theorem pPow_le (l : Bs) (b : Nat) (h : b < l.length) : pPow l b ≤ l.length := by
  unfold pPow
  split
  case isTrue h1 =>
    rcases Bool.or_eq_true_iff.1 h1 with h1 | h1
    all_goals have := at_lt _ _ _ h1
    all_goals omega
  case isFalse => omega
theorem pNumA_le (l : Bs) : pNumA l ≤ l.length := by
  unfold pNumA
  have h1 := runP_le isDigit l
  have h2 := runP_le isDigit (l.drop (runP isDigit l + 1))
  rw [List.length_drop] at h2
  split
  case isTrue h => simp only [Bool.and_eq_true, decide_eq_true_eq] at h; omega
  case isFalse => exact h1
theorem pNumber_le (l : Bs) : pNumber l ≤ l.length := by
  unfold pNumber pNumE
  have h0 := pNumA_le l
  have h2 := runP_le isDigit (l.drop (pPow l (pNumA l)))
  rw [List.length_drop] at h2
  split
  · exact h0
  · split <;> omega
/-- a byte of a word -/
def isWord (c : UInt8) : Bool := isLetter c || isDigit c || c == 95 || c == 46 || c == 36
def dollars (l : Bs) : Nat := l.count 36
theorem dollars_snoc (l : Bs) (c : UInt8) : dollars (l ++ [c]) = dollars l + if c == 36 then 1 else 0 := by simp [dollars, List.count_append, List.count_singleton]
theorem dollars_le (l : Bs) : dollars l ≤ l.length := List.count_le_length
/-- what is left of a mark behind its letters -/
def pTail (r : Bs) : Bool := decide (runP isDigit r = r.length) && decide (1 ≤ runP isDigit r) && decide (runP isDigit r ≤ 7) && !atIs r 0 48
def pMark1 (fixed : Bool) (s : Bs) : Bool :=
  if 3 < runP isLetter s then false
  else if (s.drop (runP isLetter s)).isEmpty then fixed && decide (0 < runP isLetter s)
  else if 0 < runP isLetter s then pTail (Lib.trimPrefix (s.drop (runP isLetter s)) [36])
  else if fixed then pTail (s.drop (runP isLetter s)) else false
def pMark (l : Bs) : Bool := pMark1 (Lib.hasPrefix l [36]) (Lib.trimPrefix l [36])
/-- the signs -/
def signs1 : Bs := [43, 45, 42, 47, 94, 38, 61, 60, 62, 37, 40, 41, 123, 125, 44, 59, 58, 35]
def pSign (l : Bs) : Nat := if Lib.hasPrefix l [60, 62] || Lib.hasPrefix l [60, 61] || Lib.hasPrefix l [62, 61] then 2 else if 0 ≤ Lib.indexByte signs1 (l.headD 0) then 1 else 0
/-- a word: kind, text, size -/
def pWord (l : Bs) : Nat × Bs × Nat :=
  if pMark (l.take (runP isWord l)) then (4, l.take (runP isWord l), runP isWord l)
  else if dollars (l.take (runP isWord l)) = 0 then (3, l.take (runP isWord l), runP isWord l) else (0, [], 0)
theorem trim_len (l p : Bs) : (Lib.trimPrefix l p).length ≤ l.length := by
  unfold Lib.trimPrefix; split
  · rw [List.length_drop]; omega
  · exact Nat.le_refl _
/-- what stands behind an opening quote: the text, and how many bytes it takes with the closing one -/
def pText : Bs → Option (Bs × Nat)
  | [] => none
  | [c] => if c = 34 then some ([], 1) else none
  | c :: d :: l =>
    if c = 34 then (if d = 34 then (pText l).map (fun x => (34 :: x.1, x.2 + 2)) else some ([], 1))
    else (pText (d :: l)).map (fun x => (c :: x.1, x.2 + 1))
theorem pText_other (c : UInt8) (l : Bs) (h : c ≠ 34) : pText (c :: l) = (pText l).map (fun x => (c :: x.1, x.2 + 1)) := by
  cases l with
  | nil => simp [pText, h]
  | cons d l => simp only [pText, if_neg h]
theorem pText_chunk (t l : Bs) (h : 34 ∉ t) : pText (t ++ l) = (pText l).map (fun x => (t ++ x.1, x.2 + t.length)) := by
  induction t with
  | nil => simp
  | cons c t ih =>
    have hc : c ≠ 34 := by intro e; apply h; simp [e]
    rw [List.cons_append, pText_other _ _ hc, ih (by intro e; apply h; simp [e]), Option.map_map]
    cases pText l with
    | none => rfl
    | some x => simp only [Option.map_some, Function.comp, List.length_cons, List.cons_append]; congr 2
theorem pText_no (l : Bs) (h : 34 ∉ l) : pText l = none := by
  have := pText_chunk l [] h
  simpa [pText] using this
theorem pText_end (l : Bs) (h : ∀ r, l ≠ 34 :: r) : pText (34 :: l) = some ([], 1) := by
  cases l with
  | nil => simp [pText]
  | cons d l =>
    have hd : d ≠ 34 := by intro e; exact h l (by rw [e])
    simp [pText, hd]
theorem pText_two (l : Bs) : pText (34 :: 34 :: l) = (pText l).map (fun x => (34 :: x.1, x.2 + 2)) := by simp [pText]
/-- where a byte is first found -/
theorem idx_no (l : Bs) (c : UInt8) (h : Lib.indexByte l c < 0) : c ∉ l := by
  induction l with
  | nil => simp
  | cons b l ih =>
    unfold Lib.indexByte at h
    by_cases hb : (b == c) = true
    · rw [if_pos hb] at h; omega
    · rw [if_neg hb] at h
      have hne : b ≠ c := fun e => hb (by rw [e]; simp)
      by_cases h1 : (Lib.indexByte l c == -1) = true
      · have : Lib.indexByte l c < 0 := by have := eq_of_beq h1; omega
        simp [ih this, Ne.symm hne]
      · rw [if_neg h1] at h
        have : Lib.indexByte l c < 0 := by omega
        simp [ih this, Ne.symm hne]
theorem idx_yes (l : Bs) (c : UInt8) (h : 0 ≤ Lib.indexByte l c) : ∃ n : Nat, Lib.indexByte l c = n ∧ n < l.length ∧ c ∉ l.take n ∧ l = l.take n ++ c :: l.drop (n + 1) := by
  induction l with
  | nil => simp [Lib.indexByte] at h
  | cons b l ih =>
    by_cases hb : (b == c) = true
    · have e : b = c := eq_of_beq hb
      refine ⟨0, by unfold Lib.indexByte; rw [if_pos hb]; rfl, by simp, by simp, by simp [e]⟩
    · unfold Lib.indexByte at h
      rw [if_neg hb] at h
      have hne : b ≠ c := fun e => hb (by rw [e]; simp)
      by_cases h1 : (Lib.indexByte l c == -1) = true
      · rw [if_pos h1] at h; omega
      · rw [if_neg h1] at h
        have h2 : 0 ≤ Lib.indexByte l c := by
          have : Lib.indexByte l c ≠ -1 := fun e => h1 (by rw [e]; rfl)
          omega
        obtain ⟨n, h3, h4, h5, h6⟩ := ih h2
        refine ⟨n + 1, by unfold Lib.indexByte; rw [if_neg hb, if_neg h1, h3]; rfl, by simpa using h4, by simp [h5, Ne.symm hne], ?_⟩
        simp only [List.take_succ_cons, List.drop_succ_cons, List.cons_append]
        rw [← h6]
/-- the token that a quote begins -/
def pQuoted (l : Bs) : Nat × Bs × Nat := match pText (l.drop 1) with | some x => (2, x.1, x.2 + 1) | none => (0, [], 0)
/-- how far the loop has come: 'acc' has been read up to the place 'at' -/
def QInv (l acc : Bs) (k : Nat) : Prop := 1 ≤ k ∧ k ≤ l.length ∧ acc.length ≤ k ∧ pText (l.drop 1) = (pText (l.drop k)).map (fun x => (acc ++ x.1, x.2 + (k - 1)))
theorem QInv.start (l : Bs) (h : 0 < l.length) : QInv l [] 1 := by
  refine ⟨Nat.le_refl _, h, by simp, ?_⟩
  cases pText (l.drop 1) with
  | none => rfl
  | some x => simp
theorem QInv.fail {l acc : Bs} {k : Nat} (h : QInv l acc k) (hn : Lib.indexByte (l.drop k) 34 < 0) : pQuoted l = (0, [], 0) := by
  unfold pQuoted
  rw [h.2.2.2, pText_no _ (idx_no _ _ hn)]
  rfl
theorem QInv.split {l acc : Bs} {k n : Nat} (_h : QInv l acc k) (hi : Lib.indexByte (l.drop k) 34 = (n : Int)) :
    k + n < l.length ∧ pText (l.drop k) = (pText (34 :: l.drop (k + n + 1))).map (fun x => ((l.drop k).take n ++ x.1, x.2 + n)) := by
  obtain ⟨m, h1, h2, h3, h4⟩ := idx_yes (l.drop k) 34 (by omega)
  obtain rfl : m = n := by omega
  rw [List.length_drop] at h2
  refine ⟨by omega, ?_⟩
  have e : ((l.drop k).take m).length = m := by rw [List.length_take, List.length_drop]; omega
  conv => lhs; rw [h4]
  rw [pText_chunk _ _ h3, e, List.drop_drop]
  congr 3
theorem QInv.stop {l acc : Bs} {k n : Nat} (h : QInv l acc k) (hi : Lib.indexByte (l.drop k) 34 = (n : Int)) (hq : atIs l (k + n + 1) 34 = false) :
    pQuoted l = (2, acc ++ (l.drop k).take n, k + n + 1) := by
  obtain ⟨h1, h2⟩ := h.split hi
  have hk := h.1
  unfold pQuoted
  rw [h.2.2.2, h2, pText_end]
  · simp; omega
  · intro r hr
    have h3 : (l.drop (k + n + 1))[0]? = some 34 := by rw [hr]; rfl
    rw [List.getElem?_drop, Nat.add_zero] at h3
    unfold atIs at hq
    rw [h3] at hq
    cases hq
theorem QInv.next {l acc : Bs} {k n : Nat} (h : QInv l acc k) (hi : Lib.indexByte (l.drop k) 34 = (n : Int)) (hq : atIs l (k + n + 1) 34 = true) :
    QInv l (acc ++ (l.drop k).take n ++ [34]) (k + n + 1 + 1) := by
  obtain ⟨h1, h2⟩ := h.split hi
  have hlt := at_lt _ _ _ hq
  have hk := h.1
  have ha := h.2.2.1
  refine ⟨by omega, by omega, by simp; omega, ?_⟩
  have h3 : l.drop (k + n + 1) = 34 :: l.drop (k + n + 1 + 1) := by
    rw [List.drop_eq_getElem_cons hlt]
    congr 1
    unfold atIs at hq
    rw [List.getElem?_eq_getElem hlt] at hq
    have := eq_of_beq hq
    injection this
  rw [h.2.2.2, h2, h3, pText_two]
  cases pText (l.drop (k + n + 1 + 1)) with
  | none => rfl
  | some x =>
    simp only [Option.map_some]
    congr 2
    · simp
    · omega
end Go.Proofs.YtpdaloohgfnbhaaGreatDoor
