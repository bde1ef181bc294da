/-
  Plain law: the longest number that a text begins with, by the document's way.
-/
import Derived.Test.YtcgdeoldgnjdeaaDoorPlainB
namespace Go.Proofs.YtcgdeoldgnjdeaaDoor
open Go.RowKit

/-- the document's: is all of a text a number? -/
def rNumEnd (l : Bs) (n k : Nat) : Bool :=
  if n = 0 then false
  else if atIs l k 69 || atIs l k 101 then (if runP isDigit (l.drop (pPow l k)) = 0 then false else decide (pPow l k + runP isDigit (l.drop (pPow l k)) = l.length))
  else decide (k = l.length)
def rIsNumber (l : Bs) : Bool :=
  if atIs l (runP isDigit l) 46 then
    (if runP isDigit (l.drop (runP isDigit l + 1)) = 0 then false else rNumEnd l (runP isDigit l + runP isDigit (l.drop (runP isDigit l + 1))) (runP isDigit l + 1 + runP isDigit (l.drop (runP isDigit l + 1))))
  else rNumEnd l (runP isDigit l) (runP isDigit l)
theorem pNumE_ge (l : Bs) (b : Nat) : b ≤ pNumE l b := by
  unfold pNumE
  split
  · exact Nat.le_refl _
  · split
    · unfold pPow; split <;> omega
    · exact Nat.le_refl _
theorem rNumEnd_eq (l : Bs) (n k : Nat) (hn : n = 0 ↔ k = 0) : rNumEnd l n k = (decide (0 < k) && decide (pNumE l k = l.length)) := by
  unfold rNumEnd pNumE
  by_cases h : k = 0
  · have : n = 0 := hn.2 h
    simp [h, this]
  · have hn' : n ≠ 0 := fun e => h (hn.1 e)
    rw [if_neg hn']
    have hk0 : decide (0 < k) = true := decide_eq_true (by omega)
    rw [hk0, Bool.true_and]
    cases hE : (atIs l k 69 || atIs l k 101)
    · have hx : atIs l k 101 = false ∧ atIs l k 69 = false := by
        have : atIs l k 69 = false ∧ atIs l k 101 = false := by simpa using hE
        exact ⟨this.2, this.1⟩
      rw [if_neg (by decide), if_pos (Or.inr hx)]
    · have hne : ¬ (k = 0 ∨ (atIs l k 101 = false ∧ atIs l k 69 = false)) := by
        intro hh
        rcases hh with hh | ⟨h3, h4⟩
        · exact h hh
        · rw [h3, h4] at hE; cases hE
      have hlt : k < l.length := by
        rcases Bool.or_eq_true_iff.1 hE with h1 | h1 <;> exact at_lt _ _ _ h1
      rw [if_pos rfl, if_neg hne]
      by_cases hd : runP isDigit (l.drop (pPow l k)) = 0
      · rw [if_pos hd, if_neg (by omega)]
        rw [eq_comm, decide_eq_false_iff_not]
        omega
      · rw [if_neg hd, if_pos (by omega)]
theorem rIsNumber_eq (l : Bs) : rIsNumber l = (decide (0 < l.length) && decide (pNumber l = l.length)) := by
  unfold rIsNumber pNumber
  have hn := runP_le isDigit l
  have hA := pNumA_le l
  unfold pNumA at *
  cases h : atIs l (runP isDigit l) 46
  · rw [if_neg (by simp)]
    simp only [Bool.false_and, if_neg (Bool.false_ne_true)] at hA ⊢
    rw [rNumEnd_eq l (runP isDigit l) (runP isDigit l) Iff.rfl]
    generalize runP isDigit l = n at *
    by_cases h0 : n = 0
    · subst h0
      have e : pNumE l 0 = 0 := by unfold pNumE; rw [if_pos (Or.inl rfl)]
      rw [e]
      simp
      omega
    · have e1 : decide (0 < n) = true := decide_eq_true (by omega)
      have e2 : decide (0 < l.length) = true := decide_eq_true (by omega)
      rw [e1, e2]
  · rw [if_pos rfl]
    have hlt := at_lt _ _ _ h
    have e2 : decide (0 < l.length) = true := decide_eq_true (by omega)
    have hm := runP_le isDigit (l.drop (runP isDigit l + 1))
    rw [List.length_drop] at hm
    by_cases h0 : runP isDigit (l.drop (runP isDigit l + 1)) = 0
    · rw [if_pos h0]
      have e3 : (true && decide (0 < runP isDigit (l.drop (runP isDigit l + 1)))) = false := by rw [h0]; rfl
      rw [e3, if_neg (Bool.false_ne_true)]
      have e4 : pNumE l (runP isDigit l) = runP isDigit l := by
        unfold pNumE
        have a1 : atIs l (runP isDigit l) 101 = false := by
          unfold atIs at h ⊢
          rw [eq_of_beq h]; rfl
        have a2 : atIs l (runP isDigit l) 69 = false := by
          unfold atIs at h ⊢
          rw [eq_of_beq h]; rfl
        rw [if_pos (Or.inr ⟨a1, a2⟩)]
      rw [e4, e2, Bool.true_and, eq_comm, decide_eq_false_iff_not]
      omega
    · rw [if_neg h0]
      have e3 : (true && decide (0 < runP isDigit (l.drop (runP isDigit l + 1)))) = true := by simp; omega
      rw [e3, if_pos rfl]
      rw [rNumEnd_eq _ _ _ (by omega)]
      have e1 : decide (0 < runP isDigit l + 1 + runP isDigit (l.drop (runP isDigit l + 1))) = true := decide_eq_true (by omega)
      rw [e1, e2]
theorem runP_take (p : UInt8 → Bool) (l : Bs) (m : Nat) : runP p (l.take m) = min m (runP p l) := by
  induction l generalizing m with
  | nil => simp [runP]
  | cons c l ih =>
    cases m with
    | zero => simp [runP]
    | succ m =>
      simp only [List.take_succ_cons, runP]
      split
      · rw [ih]; omega
      · omega
theorem atIs_take (l : Bs) (m k : Nat) (c : UInt8) : atIs (l.take m) k c = (decide (k < m) && atIs l k c) := by
  unfold atIs
  by_cases h : k < m
  · rw [List.getElem?_take_of_lt h, decide_eq_true h, Bool.true_and]
  · rw [List.getElem?_eq_none (by rw [List.length_take]; omega), decide_eq_false h]
    rfl
theorem runP_drop_take (p : UInt8 → Bool) (l : Bs) (m k : Nat) : runP p ((l.take m).drop k) = min (m - k) (runP p (l.drop k)) := by
  rw [List.drop_take, runP_take]
theorem pNumE_take_le (l : Bs) (b m : Nat) (hb : b < m) (h : pNumE (l.take m) b = m) : m ≤ pNumE l b := by
  unfold pNumE at h ⊢
  rw [atIs_take, atIs_take, decide_eq_true hb, Bool.true_and, Bool.true_and] at h
  by_cases h1 : b = 0 ∨ (atIs l b 101 = false ∧ atIs l b 69 = false)
  · rw [if_pos h1] at h; omega
  · rw [if_neg h1] at h ⊢
    rw [runP_drop_take] at h
    split at h
    · rename_i h2
      have hp : pPow (l.take m) b < m := by omega
      have e : pPow (l.take m) b = pPow l b := by
        unfold pPow at hp ⊢
        rw [atIs_take, atIs_take] at hp ⊢
        have : b + 1 < m := by split at hp <;> omega
        rw [decide_eq_true this, Bool.true_and, Bool.true_and]
      rw [e] at h h2
      rw [if_pos (by omega)]
      omega
    · omega
theorem pNumA_ge (l : Bs) : runP isDigit l ≤ pNumA l := by unfold pNumA; split <;> omega
theorem number_take_le (l : Bs) (m : Nat) (h : pNumber (l.take m) = m) : m ≤ pNumber l := by
  unfold pNumber at h ⊢
  have hge := pNumE_ge l (pNumA l)
  have hn := pNumA_ge l
  rcases Nat.lt_or_ge (runP isDigit l) m with h1 | h1
  · have e0 : runP isDigit (l.take m) = runP isDigit l := by rw [runP_take]; omega
    by_cases hA : pNumA (l.take m) = m
    · unfold pNumA at hA hge ⊢
      rw [e0, atIs_take, decide_eq_true h1, Bool.true_and, runP_drop_take] at hA
      cases h2 : atIs l (runP isDigit l) 46
      · rw [h2] at hA; simp at hA; omega
      · rw [h2] at hA hge
        simp only [Bool.true_and, decide_eq_true_eq] at hA hge ⊢
        split at hA
        · rw [if_pos (by omega)] at hge ⊢
          omega
        · omega
    · have eA : pNumA (l.take m) = pNumA l := by
        have hlt : pNumA (l.take m) < m := by
          have := pNumE_ge (l.take m) (pNumA (l.take m))
          omega
        unfold pNumA at hlt hA ⊢
        rw [e0, atIs_take, decide_eq_true h1, Bool.true_and, runP_drop_take] at hlt hA ⊢
        cases h2 : atIs l (runP isDigit l) 46
        · rfl
        · rw [h2] at hlt hA
          simp only [Bool.true_and, decide_eq_true_eq] at hlt hA ⊢
          by_cases h3 : 0 < min (m - (runP isDigit l + 1)) (runP isDigit (l.drop (runP isDigit l + 1)))
          · rw [if_pos h3] at hlt hA ⊢
            rw [if_pos (by omega)]
            omega
          · rw [if_neg h3] at hlt hA ⊢
            exfalso
            have e5 : pNumE (l.take m) (runP isDigit l) = runP isDigit l := by
              unfold pNumE
              rw [if_pos]
              right
              rw [atIs_take, atIs_take]
              have a1 : atIs l (runP isDigit l) 101 = false := by
                unfold atIs at h2 ⊢
                rw [eq_of_beq h2]; rfl
              have a2 : atIs l (runP isDigit l) 69 = false := by
                unfold atIs at h2 ⊢
                rw [eq_of_beq h2]; rfl
              rw [a1, a2, Bool.and_false]
              exact ⟨rfl, rfl⟩
            have e6 : pNumA (l.take m) = runP isDigit l := by
              unfold pNumA
              rw [e0, atIs_take, decide_eq_true h1, Bool.true_and, runP_drop_take, h2]
              simp only [Bool.true_and, decide_eq_true_eq]
              rw [if_neg h3]
            rw [e6, e5] at h
            omega
      have hlt : pNumA l < m := by
        rw [← eA]
        have := pNumE_ge (l.take m) (pNumA (l.take m))
        omega
      rw [eA] at h
      exact pNumE_take_le l _ m hlt h
  · omega
theorem number_take_self (l : Bs) : pNumber (l.take (pNumber l)) = pNumber l := by
  have hge : pNumA l ≤ pNumber l := pNumE_ge l (pNumA l)
  have hn := pNumA_ge l
  have hm : pNumber l = pNumE l (pNumA l) := rfl
  generalize pNumber l = m at *
  have e0 : runP isDigit (l.take m) = runP isDigit l := by rw [runP_take]; omega
  have eA : pNumA (l.take m) = pNumA l := by
    clear hm hn
    unfold pNumA at hge ⊢
    rw [e0, atIs_take, runP_drop_take]
    cases h2 : atIs l (runP isDigit l) 46
    · simp
    · rw [h2] at hge
      simp only [Bool.true_and, decide_eq_true_eq, Bool.and_true] at hge ⊢
      by_cases h3 : 0 < runP isDigit (l.drop (runP isDigit l + 1))
      · rw [if_pos h3] at hge ⊢
        have h4 : runP isDigit l < m := by omega
        rw [decide_eq_true h4, Bool.true_and, if_pos (by simp; omega)]
        omega
      · rw [if_neg h3]
        rw [if_neg (by simp; omega)]
  unfold pNumber
  rw [eA]
  generalize pNumA l = b at *
  unfold pNumE at hm ⊢
  rw [atIs_take, atIs_take, runP_drop_take]
  by_cases h1 : b = 0 ∨ (atIs l b 101 = false ∧ atIs l b 69 = false)
  · rw [if_pos h1] at hm
    rw [if_pos]
    · exact hm.symm
    · rcases h1 with h1 | ⟨h1, h2⟩
      · exact .inl h1
      · right; rw [h1, h2, Bool.and_false]; exact ⟨rfl, rfl⟩
  · rw [if_neg h1] at hm
    by_cases hd : 0 < runP isDigit (l.drop (pPow l b))
    · rw [if_pos hd] at hm
      have hp : b + 1 ≤ pPow l b := by unfold pPow; split <;> omega
      have hb : b < m := by omega
      have ep : pPow (l.take m) b = pPow l b := by
        unfold pPow at hp hm hd ⊢
        rw [atIs_take, atIs_take]
        cases h5 : (atIs l (b + 1) 43 || atIs l (b + 1) 45)
        · have h6 : atIs l (b + 1) 43 = false ∧ atIs l (b + 1) 45 = false := by simpa using h5
          rw [h6.1, h6.2, Bool.and_false]
          rfl
        · rw [h5] at hm
          have : b + 1 < m := by rw [if_pos rfl] at hm; omega
          rw [decide_eq_true this, Bool.true_and, Bool.true_and, h5]
      rw [decide_eq_true hb, Bool.true_and, Bool.true_and, if_neg h1, ep, if_pos (by omega)]
      omega
    · rw [if_neg hd] at hm
      subst hm
      rw [if_pos]
      right
      simp
/-- a byte of a number -/
def isNumC (c : UInt8) : Bool := isDigit c || c == 46 || c == 101 || c == 69 || c == 43 || c == 45
theorem at_get {l : Bs} {k : Nat} {c : UInt8} (hlt : k < l.length) (h : atIs l k c = true) : l[k] = c := by
  unfold atIs at h
  rw [List.getElem?_eq_getElem hlt] at h
  have := eq_of_beq h
  injection this
theorem runP_drop_get (p : UInt8 → Bool) (l : Bs) (k i : Nat) (h1 : k ≤ i) (h2 : i < k + runP p (l.drop k)) (hlt : i < l.length) : p l[i] = true := by
  have h3 : i - k < (l.drop k).length := by rw [List.length_drop]; omega
  have := runP_lt p (l.drop k) (i - k) (by omega) h3
  rw [List.getElem_drop] at this
  have e : k + (i - k) = i := by omega
  simpa only [e] using this
theorem isNumC_digit {c : UInt8} (h : isDigit c = true) : isNumC c = true := by unfold isNumC; rw [h]; rfl
theorem number_chars (l : Bs) (i : Nat) (hi : i < pNumber l) (hlt : i < l.length) : isNumC l[i] = true := by
  unfold pNumber at hi
  have hA : ∀ i (hlt : i < l.length), i < pNumA l → isNumC l[i] = true := by
    intro i hlt hi
    unfold pNumA at hi
    rcases Nat.lt_or_ge i (runP isDigit l) with h1 | h1
    · exact isNumC_digit (runP_lt isDigit l i h1 hlt)
    · split at hi
      · rename_i h2
        simp only [Bool.and_eq_true, decide_eq_true_eq] at h2
        rcases Nat.eq_or_lt_of_le h1 with h3 | h3
        · have := at_get (by omega) h2.1
          simp only [h3] at this
          rw [this]; rfl
        · exact isNumC_digit (runP_drop_get isDigit l (runP isDigit l + 1) i (by omega) (by omega) hlt)
      · omega
  rcases Nat.lt_or_ge i (pNumA l) with h1 | h1
  · exact hA i hlt h1
  · generalize pNumA l = b at *
    unfold pNumE at hi
    split at hi
    · omega
    · rename_i h2
      split at hi
      · rcases Nat.eq_or_lt_of_le h1 with h3 | h3
        · subst h3
          cases e1 : atIs l b 101
          · cases e2 : atIs l b 69
            · exact absurd (Or.inr ⟨e1, e2⟩) h2
            · rw [at_get hlt e2]; rfl
          · rw [at_get hlt e1]; rfl
        · unfold pPow at hi
          split at hi
          · rename_i h4
            rcases Nat.eq_or_lt_of_le h3 with h5 | h5
            · subst h5
              rcases Bool.or_eq_true_iff.1 h4 with h6 | h6
              · rw [at_get hlt h6]; rfl
              · rw [at_get hlt h6]; rfl
            · have ep : pPow l b = b + 1 + 1 := by unfold pPow; rw [if_pos h4]
              rw [ep] at *
              exact isNumC_digit (runP_drop_get isDigit l (b + 1 + 1) i (by omega) (by omega) hlt)
          · rename_i h4
            have ep : pPow l b = b + 1 := by unfold pPow; rw [if_neg h4]
            rw [ep] at *
            exact isNumC_digit (runP_drop_get isDigit l (b + 1) i (by omega) (by omega) hlt)
      · omega
end Go.Proofs.YtcgdeoldgnjdeaaDoor
