/-
  Plain laws of lexing (merged: PlainB, PlainN, PlainM).
-/
import Derived.Test.YtpdaloohgfnbhaaGreatDoorLex8
namespace Go.Proofs.YtpdaloohgfnbhaaGreatDoor
open Go.RowKit

theorem runP_blank (p : UInt8 → Bool) (l r : Bs) (h : p 32 = false) : runP p (l ++ 32 :: r) = runP p l := by
  induction l with
  | nil => simp [runP, h]
  | cons c l ih => simp only [List.cons_append, runP, ih]
theorem atIs_blank (l r : Bs) (k : Nat) (c : UInt8) (hc : c ≠ 32) (hk : k ≤ l.length) : atIs (l ++ 32 :: r) k c = atIs l k c := by
  unfold atIs
  rcases Nat.lt_or_ge k l.length with h | h
  · rw [List.getElem?_append_left h]
  · obtain rfl : k = l.length := by omega
    rw [List.getElem?_append_right (Nat.le_refl _), Nat.sub_self, List.getElem?_cons_zero, List.getElem?_eq_none (Nat.le_refl _)]
    have : ((some 32 : Option UInt8) == some c) = false := by
      rw [beq_eq_false_iff_ne]
      intro e
      injection e with e
      exact hc e.symm
    rw [this]
    rfl
theorem drop_blank (l r : Bs) (k : Nat) (hk : k ≤ l.length) : (l ++ 32 :: r).drop k = l.drop k ++ 32 :: r := List.drop_append_of_le_length hk
theorem pNumA_blank (l r : Bs) : pNumA (l ++ 32 :: r) = pNumA l := by
  unfold pNumA
  rw [runP_blank isDigit l r rfl, atIs_blank l r _ 46 (by decide) (runP_le _ _)]
  cases h : atIs l (runP isDigit l) 46
  · simp
  · have := at_lt _ _ _ h
    rw [drop_blank l r _ this, runP_blank isDigit _ r rfl]
theorem pNumber_blank (l r : Bs) : pNumber (l ++ 32 :: r) = pNumber l := by
  unfold pNumber
  rw [pNumA_blank]
  have hle := pNumA_le l
  generalize pNumA l = b at *
  unfold pNumE
  rw [atIs_blank l r b 101 (by decide) hle, atIs_blank l r b 69 (by decide) hle]
  by_cases h : b = 0 ∨ (atIs l b 101 = false ∧ atIs l b 69 = false)
  · rw [if_pos h, if_pos h]
  · rw [if_neg h, if_neg h]
    have hlt : b < l.length := by
      rcases Nat.lt_or_ge b l.length with h1 | h1
      · exact h1
      · exact absurd (Or.inr ⟨at_out _ _ _ h1, at_out _ _ _ h1⟩) h
    have hp : pPow (l ++ 32 :: r) b = pPow l b := by
      unfold pPow
      rw [atIs_blank l r _ 43 (by decide) hlt, atIs_blank l r _ 45 (by decide) hlt]
    have hpl := pPow_le l b hlt
    rw [hp, drop_blank l r _ hpl, runP_blank isDigit _ r rfl]
theorem take_blank (l r : Bs) (k : Nat) (hk : k ≤ l.length) : (l ++ 32 :: r).take k = l.take k := List.take_append_of_le_length hk
theorem pWord_blank (l r : Bs) : pWord (l ++ 32 :: r) = pWord l := by
  unfold pWord
  rw [runP_blank isWord l r rfl, take_blank l r _ (runP_le _ _)]
theorem pText_blank (l r : Bs) (x : Bs × Nat) (h : pText l = some x) : pText (l ++ 32 :: r) = some x := by
  have key : ∀ n (l : Bs), l.length ≤ n → ∀ x, pText l = some x → pText (l ++ 32 :: r) = some x := by
    intro n
    induction n with
    | zero => intro l hl x hx; cases l with
      | nil => simp [pText] at hx
      | cons c l => simp at hl
    | succ n ih =>
      intro l hl x hx
      match l, hl, hx with
      | [], _, hx => simp [pText] at hx
      | [c], _, hx =>
        simp only [pText] at hx
        split at hx
        · rename_i e
          subst e
          rw [← hx]
          exact pText_end (32 :: r) (by intro y h; injection h with h; cases h)
        · cases hx
      | c :: d :: l, hl, hx =>
        simp only [List.length_cons] at hl
        by_cases hc : c = 34
        · subst hc
          by_cases hd : d = 34
          · subst hd
            rw [pText_two] at hx
            rw [List.cons_append, List.cons_append, pText_two]
            cases hy : pText l with
            | none => rw [hy] at hx; cases hx
            | some y => rw [ih l (by omega) y hy, ← hy, hx]
          · rw [pText_end _ (by intro y h; injection h with h; exact hd h)] at hx
            rw [List.cons_append, List.cons_append, pText_end _ (by intro y h; injection h with h; exact hd h), hx]
        · rw [pText_other _ _ hc] at hx
          rw [List.cons_append, pText_other _ _ hc]
          cases hy : pText (d :: l) with
          | none => rw [hy] at hx; cases hx
          | some y => rw [ih (d :: l) (by simp only [List.length_cons]; omega) y hy, ← hy, hx]
  exact key l.length l (Nat.le_refl _) x h
theorem faultB_blank : ∀ k, 32 ∉ faultB k := by
  intro k
  match k with
  | 0 => decide
  | 1 => decide
  | 2 => decide
  | 3 => decide
  | 4 => decide
  | 5 => decide
  | 6 => decide
  | 7 => decide
  | 8 => decide
  | 9 => decide
  | k + 10 => exact List.not_mem_nil
theorem pFaultAt_blank (l r : Bs) (k : Nat) : pFaultAt (l ++ 32 :: r) k = pFaultAt l k := by
  unfold pFaultAt
  have hb := faultB_blank k
  generalize faultB k = t at *
  by_cases h : t.length ≤ l.length
  · rw [take_blank l r _ h]
    simp [h]
    omega
  · have e2 : decide (t.length ≤ l.length) = false := decide_eq_false h
    rw [e2, Bool.false_and]
    by_cases h3 : t.length ≤ (l ++ 32 :: r).length
    · have e3 : (pFold ((l ++ 32 :: r).take t.length) == t) = false := by
        rw [beq_eq_false_iff_ne]
        intro e
        apply hb
        rw [← e]
        unfold pFold
        rw [List.mem_map]
        refine ⟨32, ?_, rfl⟩
        have e4 : ((l ++ 32 :: r).take t.length)[l.length]? = some 32 := by
          rw [List.getElem?_take_of_lt (by omega), List.getElem?_append_right (Nat.le_refl _), Nat.sub_self]
          rfl
        exact List.mem_of_getElem? e4
      rw [e3, Bool.and_false]
    · rw [decide_eq_false h3, Bool.false_and]
theorem find_congr (p q : Nat → Bool) (l : List Nat) (h : ∀ i, p i = q i) : l.find? p = l.find? q := by
  have : p = q := funext h
  rw [this]
theorem pFaultB_blank (l r : Bs) : pFaultB (l ++ 32 :: r) = pFaultB l := by
  unfold pFaultB pFault
  rw [atIs_blank l r 0 35 (by decide) (Nat.zero_le _), find_congr _ _ _ (pFaultAt_blank l r)]
theorem pSign_blank (l r : Bs) (hp : 0 < l.length) : pSign (l ++ 32 :: r) = pSign l := by
  cases l with
  | nil => simp at hp
  | cons c l =>
    cases l with
    | nil =>
      unfold pSign Lib.hasPrefix
      simp [List.isPrefixOf]
    | cons d l => rfl
theorem letter0_blank (l r : Bs) (hp : 0 < l.length) : letter0 (l ++ 32 :: r) = letter0 l := by
  cases l with
  | nil => simp at hp
  | cons c l => rfl
theorem pSign_le' (l : Bs) (hp : 0 < l.length) : pSign l ≤ l.length := pSign_le l hp
theorem pToken_blank (l r : Bs) (hp : 0 < l.length) (h0 : (pToken l).2.2 ≠ 0) : pToken (l ++ 32 :: r) = pToken l := by
  unfold pToken at h0 ⊢
  rw [pNumber_blank, letter0_blank l r hp, atIs_blank l r 0 95 (by decide) (Nat.zero_le _), atIs_blank l r 0 36 (by decide) (Nat.zero_le _), atIs_blank l r 0 34 (by decide) (Nat.zero_le _), pWord_blank, pFaultB_blank l r, pSign_blank l r hp,
    take_blank l r _ (pNumber_le l), take_blank l r _ (pSign_le l hp)]
  by_cases h1 : 0 < pNumber l
  · rw [if_pos h1, if_pos h1]
  · rw [if_neg h1] at h0 ⊢
    rw [if_neg h1]
    by_cases h2 : (letter0 l || atIs l 0 95 || atIs l 0 36) = true
    · rw [if_pos h2, if_pos h2]
    · rw [if_neg h2] at h0 ⊢
      rw [if_neg h2]
      by_cases h3 : atIs l 0 34 = true
      · rw [if_pos h3] at h0 ⊢
        rw [if_pos h3]
        unfold pQuoted at h0 ⊢
        cases hx : pText (l.drop 1) with
        | none => rw [hx] at h0; exact absurd rfl h0
        | some x =>
          rw [drop_blank l r 1 hp, pText_blank _ r x hx]
      · rw [if_neg h3, if_neg h3]
/-- places moved on -/
def shiftTok (m : Nat) (t : Tok) : Tok := ⟨t.kind, t.text, t.place + m⟩
def shiftRes (m : Nat) : Except Nat (List Tok) → Except Nat (List Tok)
  | .error p => .error (p + m)
  | .ok ts => .ok (ts.map (shiftTok m))
theorem lexGo_shift (m : Nat) : ∀ (f : Nat) (l : Bs) (k : Nat), lexGo f l (k + m) = shiftRes m (lexGo f l k) := by
  intro f
  induction f with
  | zero => intro l k; rfl
  | succ f ih =>
    intro l k
    cases l with
    | nil => rfl
    | cons c r =>
      simp only [lexGo]
      split
      · rw [show k + m + 1 = k + 1 + m by omega]; exact ih r (k + 1)
      · split
        · rfl
        · rw [show k + m + (pToken (c :: r)).2.2 = k + (pToken (c :: r)).2.2 + m by omega, ih]
          cases lexGo f ((c :: r).drop (pToken (c :: r)).2.2) (k + (pToken (c :: r)).2.2) <;> rfl
theorem lexFrom_shift (l : Bs) (k m : Nat) : lexFrom l (k + m) = shiftRes m (lexFrom l k) := lexGo_shift m _ _ _
theorem lexFrom_beside (t : Bs) : ∀ (n : Nat) (s : Bs) (k : Nat) (a : List Tok), s.length ≤ n → lexFrom s k = .ok a → lexFrom (s ++ 32 :: t) k = appTok a (lexFrom t (k + s.length + 1)) := by
  intro n
  induction n with
  | zero =>
    intro s k a hs h
    obtain rfl : s = [] := List.eq_nil_of_length_eq_zero (by omega)
    rw [lexFrom_nil] at h
    injection h with h
    subst h
    rw [List.nil_append, lexFrom_blank]
    show lexFrom t (k + 1) = appTok [] (lexFrom t (k + 1))
    cases lexFrom t (k + 1) <;> rfl
  | succ n ih =>
    intro s k a hs h
    cases s with
    | nil =>
      rw [lexFrom_nil] at h
      injection h with h
      subst h
      rw [List.nil_append, lexFrom_blank]
      show lexFrom t (k + 1) = appTok [] (lexFrom t (k + 1))
      cases lexFrom t (k + 1) <;> rfl
    | cons c r =>
      simp only [List.length_cons] at hs
      by_cases hc : c = 32
      · subst hc
        rw [lexFrom_blank] at h
        rw [List.cons_append, lexFrom_blank, ih r (k + 1) a (by omega) h]
        rw [show k + 1 + r.length + 1 = k + (32 :: r : Bs).length + 1 by simp only [List.length_cons]; omega]
      · by_cases h0 : (pToken (c :: r)).2.2 = 0
        · rw [lexFrom_bad c r k hc h0] at h; cases h
        · have hp : 0 < (c :: r).length := by simp
          have hle := pToken_le (c :: r) hp
          have e := pToken_blank (c :: r) t hp h0
          rw [lexFrom_tok c r k hc h0] at h
          cases hx : lexFrom ((c :: r).drop (pToken (c :: r)).2.2) (k + (pToken (c :: r)).2.2) with
          | error p => rw [hx] at h; cases h
          | ok b =>
            rw [hx] at h
            injection h with h
            subst h
            rw [List.cons_append] at e
            rw [List.cons_append, lexFrom_tok c (r ++ 32 :: t) k hc (by rw [e]; exact h0), e, ← List.cons_append, drop_blank (c :: r) t _ hle]
            rw [ih _ _ b (by rw [List.length_drop, List.length_cons]; omega) hx]
            rw [show k + (pToken (c :: r)).2.2 + ((c :: r).drop (pToken (c :: r)).2.2).length + 1 = k + (c :: r).length + 1 by rw [List.length_drop]; omega]
            cases lexFrom t (k + (c :: r).length + 1) <;> rfl
theorem lexGo_err : ∀ (f : Nat) (l : Bs) (k p : Nat), lexGo f l k = .error p → k ≤ p ∧ p < k + l.length := by
  intro f
  induction f with
  | zero => intro l k p h; cases h
  | succ f ih =>
    intro l k p h
    cases l with
    | nil => cases h
    | cons c r =>
      simp only [lexGo] at h
      split at h
      · have := ih r (k + 1) p h
        simp only [List.length_cons]
        omega
      · split at h
        · injection h with h
          subst h
          simp
        · cases hx : lexGo f ((c :: r).drop (pToken (c :: r)).2.2) (k + (pToken (c :: r)).2.2) with
          | error q =>
            rw [hx] at h
            injection h with h
            subst h
            have := ih _ _ q hx
            have hle := pToken_le (c :: r) (by simp)
            rw [List.length_drop] at this
            omega
          | ok ts => rw [hx] at h; cases h
theorem pLex_err (l : Bs) (p : Nat) (h : pLex l = .error p) : p < l.length := by
  have := (lexGo_err _ _ _ _ h).2
  omega
theorem lexGo_ok_len : ∀ (f : Nat) (l : Bs) (k : Nat) (ts : List Tok), lexGo f l k = .ok ts → ts.length ≤ l.length := by
  intro f
  induction f with
  | zero => intro l k ts h; injection h with h; subst h; simp
  | succ f ih =>
    intro l k ts h
    cases l with
    | nil => injection h with h; subst h; simp
    | cons c r =>
      simp only [lexGo] at h
      split at h
      · have := ih r (k + 1) ts h
        simp only [List.length_cons]
        omega
      · split at h
        · cases h
        · rename_i h0
          cases hx : lexGo f ((c :: r).drop (pToken (c :: r)).2.2) (k + (pToken (c :: r)).2.2) with
          | error q => rw [hx] at h; cases h
          | ok us =>
            rw [hx] at h
            injection h with h
            subst h
            have := ih _ _ us hx
            rw [List.length_drop] at this
            simp only [List.length_cons] at this ⊢
            omega
theorem pLex_len (l : Bs) (ts : List Tok) (h : pLex l = .ok ts) : ts.length ≤ l.length := lexGo_ok_len _ _ _ _ h
theorem lexGo_place : ∀ (f : Nat) (l : Bs) (k : Nat) (ts : List Tok), lexGo f l k = .ok ts → ∀ t ∈ ts, t.place ≤ k + l.length := by
  intro f
  induction f with
  | zero => intro l k ts h; injection h with h; subst h; simp
  | succ f ih =>
    intro l k ts h
    cases l with
    | nil => injection h with h; subst h; simp
    | cons c r =>
      simp only [lexGo] at h
      split at h
      · intro t ht
        have := ih r (k + 1) ts h t ht
        simp only [List.length_cons]
        omega
      · split at h
        · cases h
        · cases hx : lexGo f ((c :: r).drop (pToken (c :: r)).2.2) (k + (pToken (c :: r)).2.2) with
          | error q => rw [hx] at h; cases h
          | ok us =>
            rw [hx] at h
            injection h with h
            subst h
            intro t ht
            rcases List.mem_cons.1 ht with rfl | ht
            · simp
            · have := ih _ _ us hx t ht
              have hle := pToken_le (c :: r) (by simp)
              rw [List.length_drop] at this
              omega
theorem pLex_place (l : Bs) (ts : List Tok) (h : pLex l = .ok ts) : ∀ t ∈ ts, t.place ≤ l.length := by
  intro t ht
  have := lexGo_place _ _ _ _ h t ht
  omega
/-- the first k places moved on -/
def stepToks (m k : Nat) (ts : List Tok) : List Tok := (ts.take k).map (shiftTok m) ++ ts.drop k
theorem stepToks_zero (m : Nat) (ts : List Tok) : stepToks m 0 ts = ts := by simp [stepToks]
theorem stepToks_all (m : Nat) (ts : List Tok) : stepToks m ts.length ts = ts.map (shiftTok m) := by simp [stepToks]
theorem stepToks_len (m k : Nat) (ts : List Tok) : (stepToks m k ts).length = ts.length := by simp [stepToks]; omega
theorem stepToks_get (m k : Nat) (ts : List Tok) (h : k < ts.length) (h' : k < (stepToks m k ts).length) : (stepToks m k ts)[k] = ts[k] := by
  have e : ((ts.take k).map (shiftTok m)).length = k := by simp; omega
  have h2 : (stepToks m k ts)[k]? = ts[k]? := by
    unfold stepToks
    rw [List.getElem?_append_right (by omega), e, Nat.sub_self, List.getElem?_drop, Nat.add_zero]
  rw [List.getElem?_eq_getElem h', List.getElem?_eq_getElem h] at h2
  injection h2
theorem stepToks_set (m k : Nat) (ts : List Tok) (h : k < ts.length) : (stepToks m k ts).set k (shiftTok m ts[k]) = stepToks m (k + 1) ts := by
  have e : ((ts.take k).map (shiftTok m)).length = k := by simp; omega
  unfold stepToks
  rw [List.set_append_right (h := by omega), e, Nat.sub_self, List.drop_eq_getElem_cons h, List.set_cons_zero, List.take_succ_eq_append_getElem h]
  rw [List.map_append, List.append_assoc]
  rfl
theorem rowCells_set (ts : List Tok) (k : Nat) (h : k < ts.length) (p : Nat) : rowCells (ts.set k ⟨ts[k].kind, ts[k].text, p⟩) = (rowCells ts).set (k * 3 + 2) (.int .i64 p) := by
  induction ts generalizing k with
  | nil => simp at h
  | cons t ts ih =>
    cases k with
    | zero => simp [rowCells, tokCells]
    | succ k =>
      have e : ∀ t us, rowCells (t :: us) = tokCells t ++ rowCells us := by intro t us; simp [rowCells]
      have hl : (tokCells t).length = 3 := rfl
      rw [List.set_cons_succ, e, e, List.set_append_right (h := by omega), hl]
      rw [show (k + 1) * 3 + 2 - 3 = k * 3 + 2 by omega]
      have := ih k (by simpa using h)
      simp only [List.getElem_cons_succ]
      rw [this]
theorem pLex_beside (s t : Bs) (a : List Tok) (h : pLex s = .ok a) : pLex (s ++ 32 :: t) = appTok a (shiftRes (s.length + 1) (pLex t)) := by
  unfold pLex at h ⊢
  rw [lexFrom_beside t s.length s 0 a (Nat.le_refl _) h, show 0 + s.length + 1 = 0 + (s.length + 1) by omega, lexFrom_shift]
/-- the document's: is all of a text a number? -/
def rNumEnd (l : Bs) (n k : Nat) : Bool :=
  if n = 0 then false
  else if atIs l k 69 || atIs l k 101 then (if runP isDigit (l.drop (pPow l k)) = 0 then false else decide (pPow l k + runP isDigit (l.drop (pPow l k)) = l.length))
  else decide (k = l.length)
def rIsNumber (l : Bs) : Bool :=
  if atIs l (runP isDigit l) 46 then
    (if runP isDigit (l.drop (runP isDigit l + 1)) = 0 then false else rNumEnd l (runP isDigit l + runP isDigit (l.drop (runP isDigit l + 1))) (runP isDigit l + 1 + runP isDigit (l.drop (runP isDigit l + 1))))
  else rNumEnd l (runP isDigit l) (runP isDigit l)
theorem pNumE_ge (l : Bs) (b : Nat) : b ≤ pNumE l b := by
  unfold pNumE
  split
  · exact Nat.le_refl _
  · split
    · unfold pPow; split <;> omega
    · exact Nat.le_refl _
theorem rNumEnd_eq (l : Bs) (n k : Nat) (hn : n = 0 ↔ k = 0) : rNumEnd l n k = (decide (0 < k) && decide (pNumE l k = l.length)) := by
  unfold rNumEnd pNumE
  by_cases h : k = 0
  · have : n = 0 := hn.2 h
    simp [h, this]
  · have hn' : n ≠ 0 := fun e => h (hn.1 e)
    rw [if_neg hn']
    have hk0 : decide (0 < k) = true := decide_eq_true (by omega)
    rw [hk0, Bool.true_and]
    cases hE : (atIs l k 69 || atIs l k 101)
    · have hx : atIs l k 101 = false ∧ atIs l k 69 = false := by
        have : atIs l k 69 = false ∧ atIs l k 101 = false := by simpa using hE
        exact ⟨this.2, this.1⟩
      rw [if_neg (by decide), if_pos (Or.inr hx)]
    · have hne : ¬ (k = 0 ∨ (atIs l k 101 = false ∧ atIs l k 69 = false)) := by
        intro hh
        rcases hh with hh | ⟨h3, h4⟩
        · exact h hh
        · rw [h3, h4] at hE; cases hE
      have hlt : k < l.length := by
        rcases Bool.or_eq_true_iff.1 hE with h1 | h1 <;> exact at_lt _ _ _ h1
      rw [if_pos rfl, if_neg hne]
      by_cases hd : runP isDigit (l.drop (pPow l k)) = 0
      · rw [if_pos hd, if_neg (by omega)]
        rw [eq_comm, decide_eq_false_iff_not]
        omega
      · rw [if_neg hd, if_pos (by omega)]
theorem rIsNumber_eq (l : Bs) : rIsNumber l = (decide (0 < l.length) && decide (pNumber l = l.length)) := by
  unfold rIsNumber pNumber
  have hn := runP_le isDigit l
  have hA := pNumA_le l
  unfold pNumA at *
  cases h : atIs l (runP isDigit l) 46
  · rw [if_neg (by simp)]
    simp only [Bool.false_and, if_neg (Bool.false_ne_true)] at hA ⊢
    rw [rNumEnd_eq l (runP isDigit l) (runP isDigit l) Iff.rfl]
    generalize runP isDigit l = n at *
    by_cases h0 : n = 0
    · subst h0
      have e : pNumE l 0 = 0 := by unfold pNumE; rw [if_pos (Or.inl rfl)]
      rw [e]
      simp
      omega
    · have e1 : decide (0 < n) = true := decide_eq_true (by omega)
      have e2 : decide (0 < l.length) = true := decide_eq_true (by omega)
      rw [e1, e2]
  · rw [if_pos rfl]
    have hlt := at_lt _ _ _ h
    have e2 : decide (0 < l.length) = true := decide_eq_true (by omega)
    have hm := runP_le isDigit (l.drop (runP isDigit l + 1))
    rw [List.length_drop] at hm
    by_cases h0 : runP isDigit (l.drop (runP isDigit l + 1)) = 0
    · rw [if_pos h0]
      have e3 : (true && decide (0 < runP isDigit (l.drop (runP isDigit l + 1)))) = false := by rw [h0]; rfl
      rw [e3, if_neg (Bool.false_ne_true)]
      have e4 : pNumE l (runP isDigit l) = runP isDigit l := by
        unfold pNumE
        have a1 : atIs l (runP isDigit l) 101 = false := by
          unfold atIs at h ⊢
          rw [eq_of_beq h]; rfl
        have a2 : atIs l (runP isDigit l) 69 = false := by
          unfold atIs at h ⊢
          rw [eq_of_beq h]; rfl
        rw [if_pos (Or.inr ⟨a1, a2⟩)]
      rw [e4, e2, Bool.true_and, eq_comm, decide_eq_false_iff_not]
      omega
    · rw [if_neg h0]
      have e3 : (true && decide (0 < runP isDigit (l.drop (runP isDigit l + 1)))) = true := by simp; omega
      rw [e3, if_pos rfl]
      rw [rNumEnd_eq _ _ _ (by omega)]
      have e1 : decide (0 < runP isDigit l + 1 + runP isDigit (l.drop (runP isDigit l + 1))) = true := decide_eq_true (by omega)
      rw [e1, e2]
theorem runP_take (p : UInt8 → Bool) (l : Bs) (m : Nat) : runP p (l.take m) = min m (runP p l) := by
  induction l generalizing m with
  | nil => simp [runP]
  | cons c l ih =>
    cases m with
    | zero => simp [runP]
    | succ m =>
      simp only [List.take_succ_cons, runP]
      split
      · rw [ih]; omega
      · omega
theorem atIs_take (l : Bs) (m k : Nat) (c : UInt8) : atIs (l.take m) k c = (decide (k < m) && atIs l k c) := by
  unfold atIs
  by_cases h : k < m
  · rw [List.getElem?_take_of_lt h, decide_eq_true h, Bool.true_and]
  · rw [List.getElem?_eq_none (by rw [List.length_take]; omega), decide_eq_false h]
    rfl
theorem runP_drop_take (p : UInt8 → Bool) (l : Bs) (m k : Nat) : runP p ((l.take m).drop k) = min (m - k) (runP p (l.drop k)) := by
  rw [List.drop_take, runP_take]
theorem pNumE_take_le (l : Bs) (b m : Nat) (hb : b < m) (h : pNumE (l.take m) b = m) : m ≤ pNumE l b := by
  unfold pNumE at h ⊢
  rw [atIs_take, atIs_take, decide_eq_true hb, Bool.true_and, Bool.true_and] at h
  by_cases h1 : b = 0 ∨ (atIs l b 101 = false ∧ atIs l b 69 = false)
  · rw [if_pos h1] at h; omega
  · rw [if_neg h1] at h ⊢
    rw [runP_drop_take] at h
    split at h
    · rename_i h2
      have hp : pPow (l.take m) b < m := by omega
      have e : pPow (l.take m) b = pPow l b := by
        unfold pPow at hp ⊢
        rw [atIs_take, atIs_take] at hp ⊢
        have : b + 1 < m := by split at hp <;> omega
        rw [decide_eq_true this, Bool.true_and, Bool.true_and]
      rw [e] at h h2
      rw [if_pos (by omega)]
      omega
    · omega
theorem pNumA_ge (l : Bs) : runP isDigit l ≤ pNumA l := by unfold pNumA; split <;> omega
theorem number_take_le (l : Bs) (m : Nat) (h : pNumber (l.take m) = m) : m ≤ pNumber l := by
  unfold pNumber at h ⊢
  have hge := pNumE_ge l (pNumA l)
  have hn := pNumA_ge l
  rcases Nat.lt_or_ge (runP isDigit l) m with h1 | h1
  · have e0 : runP isDigit (l.take m) = runP isDigit l := by rw [runP_take]; omega
    by_cases hA : pNumA (l.take m) = m
    · unfold pNumA at hA hge ⊢
      rw [e0, atIs_take, decide_eq_true h1, Bool.true_and, runP_drop_take] at hA
      cases h2 : atIs l (runP isDigit l) 46
      · rw [h2] at hA; simp at hA; omega
      · rw [h2] at hA hge
        simp only [Bool.true_and, decide_eq_true_eq] at hA hge ⊢
        split at hA
        · rw [if_pos (by omega)] at hge ⊢
          omega
        · omega
    · have eA : pNumA (l.take m) = pNumA l := by
        have hlt : pNumA (l.take m) < m := by
          have := pNumE_ge (l.take m) (pNumA (l.take m))
          omega
        unfold pNumA at hlt hA ⊢
        rw [e0, atIs_take, decide_eq_true h1, Bool.true_and, runP_drop_take] at hlt hA ⊢
        cases h2 : atIs l (runP isDigit l) 46
        · rfl
        · rw [h2] at hlt hA
          simp only [Bool.true_and, decide_eq_true_eq] at hlt hA ⊢
          by_cases h3 : 0 < min (m - (runP isDigit l + 1)) (runP isDigit (l.drop (runP isDigit l + 1)))
          · rw [if_pos h3] at hlt hA ⊢
            rw [if_pos (by omega)]
            omega
          · rw [if_neg h3] at hlt hA ⊢
            exfalso
            have e5 : pNumE (l.take m) (runP isDigit l) = runP isDigit l := by
              unfold pNumE
              rw [if_pos]
              right
              rw [atIs_take, atIs_take]
              have a1 : atIs l (runP isDigit l) 101 = false := by
                unfold atIs at h2 ⊢
                rw [eq_of_beq h2]; rfl
              have a2 : atIs l (runP isDigit l) 69 = false := by
                unfold atIs at h2 ⊢
                rw [eq_of_beq h2]; rfl
              rw [a1, a2, Bool.and_false]
              exact ⟨rfl, rfl⟩
            have e6 : pNumA (l.take m) = runP isDigit l := by
              unfold pNumA
              rw [e0, atIs_take, decide_eq_true h1, Bool.true_and, runP_drop_take, h2]
              simp only [Bool.true_and, decide_eq_true_eq]
              rw [if_neg h3]
            rw [e6, e5] at h
            omega
      have hlt : pNumA l < m := by
        rw [← eA]
        have := pNumE_ge (l.take m) (pNumA (l.take m))
        omega
      rw [eA] at h
      exact pNumE_take_le l _ m hlt h
  · omega
theorem number_take_self (l : Bs) : pNumber (l.take (pNumber l)) = pNumber l := by
  have hge : pNumA l ≤ pNumber l := pNumE_ge l (pNumA l)
  have hn := pNumA_ge l
  have hm : pNumber l = pNumE l (pNumA l) := rfl
  generalize pNumber l = m at *
  have e0 : runP isDigit (l.take m) = runP isDigit l := by rw [runP_take]; omega
  have eA : pNumA (l.take m) = pNumA l := by
    clear hm hn
    unfold pNumA at hge ⊢
    rw [e0, atIs_take, runP_drop_take]
    cases h2 : atIs l (runP isDigit l) 46
    · simp
    · rw [h2] at hge
      simp only [Bool.true_and, decide_eq_true_eq, Bool.and_true] at hge ⊢
      by_cases h3 : 0 < runP isDigit (l.drop (runP isDigit l + 1))
      · rw [if_pos h3] at hge ⊢
        have h4 : runP isDigit l < m := by omega
        rw [decide_eq_true h4, Bool.true_and, if_pos (by simp; omega)]
        omega
      · rw [if_neg h3]
        rw [if_neg (by simp; omega)]
  unfold pNumber
  rw [eA]
  generalize pNumA l = b at *
  unfold pNumE at hm ⊢
  rw [atIs_take, atIs_take, runP_drop_take]
  by_cases h1 : b = 0 ∨ (atIs l b 101 = false ∧ atIs l b 69 = false)
  · rw [if_pos h1] at hm
    rw [if_pos]
    · exact hm.symm
    · rcases h1 with h1 | ⟨h1, h2⟩
      · exact .inl h1
      · right; rw [h1, h2, Bool.and_false]; exact ⟨rfl, rfl⟩
  · rw [if_neg h1] at hm
    by_cases hd : 0 < runP isDigit (l.drop (pPow l b))
    · rw [if_pos hd] at hm
      have hp : b + 1 ≤ pPow l b := by unfold pPow; split <;> omega
      have hb : b < m := by omega
      have ep : pPow (l.take m) b = pPow l b := by
        unfold pPow at hp hm hd ⊢
        rw [atIs_take, atIs_take]
        cases h5 : (atIs l (b + 1) 43 || atIs l (b + 1) 45)
        · have h6 : atIs l (b + 1) 43 = false ∧ atIs l (b + 1) 45 = false := by simpa using h5
          rw [h6.1, h6.2, Bool.and_false]
          rfl
        · rw [h5] at hm
          have : b + 1 < m := by rw [if_pos rfl] at hm; omega
          rw [decide_eq_true this, Bool.true_and, Bool.true_and, h5]
      rw [decide_eq_true hb, Bool.true_and, Bool.true_and, if_neg h1, ep, if_pos (by omega)]
      omega
    · rw [if_neg hd] at hm
      subst hm
      rw [if_pos]
      right
      simp
/-- a byte of a number -/
def isNumC (c : UInt8) : Bool := isDigit c || c == 46 || c == 101 || c == 69 || c == 43 || c == 45
theorem at_get {l : Bs} {k : Nat} {c : UInt8} (hlt : k < l.length) (h : atIs l k c = true) : l[k] = c := by
  unfold atIs at h
  rw [List.getElem?_eq_getElem hlt] at h
  have := eq_of_beq h
  injection this
theorem runP_drop_get (p : UInt8 → Bool) (l : Bs) (k i : Nat) (h1 : k ≤ i) (h2 : i < k + runP p (l.drop k)) (hlt : i < l.length) : p l[i] = true := by
  have h3 : i - k < (l.drop k).length := by rw [List.length_drop]; omega
  have := runP_lt p (l.drop k) (i - k) (by omega) h3
  rw [List.getElem_drop] at this
  have e : k + (i - k) = i := by omega
  simpa only [e] using this
theorem isNumC_digit {c : UInt8} (h : isDigit c = true) : isNumC c = true := by unfold isNumC; rw [h]; rfl
theorem number_chars (l : Bs) (i : Nat) (hi : i < pNumber l) (hlt : i < l.length) : isNumC l[i] = true := by
  unfold pNumber at hi
  have hA : ∀ i (hlt : i < l.length), i < pNumA l → isNumC l[i] = true := by
    intro i hlt hi
    unfold pNumA at hi
    rcases Nat.lt_or_ge i (runP isDigit l) with h1 | h1
    · exact isNumC_digit (runP_lt isDigit l i h1 hlt)
    · split at hi
      · rename_i h2
        simp only [Bool.and_eq_true, decide_eq_true_eq] at h2
        rcases Nat.eq_or_lt_of_le h1 with h3 | h3
        · have := at_get (by omega) h2.1
          simp only [h3] at this
          rw [this]; rfl
        · exact isNumC_digit (runP_drop_get isDigit l (runP isDigit l + 1) i (by omega) (by omega) hlt)
      · omega
  rcases Nat.lt_or_ge i (pNumA l) with h1 | h1
  · exact hA i hlt h1
  · generalize pNumA l = b at *
    unfold pNumE at hi
    split at hi
    · omega
    · rename_i h2
      split at hi
      · rcases Nat.eq_or_lt_of_le h1 with h3 | h3
        · subst h3
          cases e1 : atIs l b 101
          · cases e2 : atIs l b 69
            · exact absurd (Or.inr ⟨e1, e2⟩) h2
            · rw [at_get hlt e2]; rfl
          · rw [at_get hlt e1]; rfl
        · unfold pPow at hi
          split at hi
          · rename_i h4
            rcases Nat.eq_or_lt_of_le h3 with h5 | h5
            · subst h5
              rcases Bool.or_eq_true_iff.1 h4 with h6 | h6
              · rw [at_get hlt h6]; rfl
              · rw [at_get hlt h6]; rfl
            · have ep : pPow l b = b + 1 + 1 := by unfold pPow; rw [if_pos h4]
              rw [ep] at *
              exact isNumC_digit (runP_drop_get isDigit l (b + 1 + 1) i (by omega) (by omega) hlt)
          · rename_i h4
            have ep : pPow l b = b + 1 := by unfold pPow; rw [if_neg h4]
            rw [ep] at *
            exact isNumC_digit (runP_drop_get isDigit l (b + 1) i (by omega) (by omega) hlt)
      · omega
def rMarkEnd (l : Bs) (k : Nat) : Bool := decide (1 ≤ runP isDigit (l.drop k)) && decide (runP isDigit (l.drop k) ≤ 7) && !atIs l k 48 && decide (k + runP isDigit (l.drop k) = l.length)
/-- where the letters begin -/
def rAt (l : Bs) : Nat := if atIs l 0 36 then 1 else 0
def rMark1 (l : Bs) (a n : Nat) : Bool :=
  if 3 < n then false
  else if 0 < n ∧ a + n = l.length then atIs l 0 36
  else if 0 < n ∧ atIs l (a + n) 36 = true then rMarkEnd l (a + n + 1)
  else if n = 0 ∧ atIs l 0 36 = false then false
  else rMarkEnd l (a + n)
def rMark (l : Bs) : Bool := rMark1 l (rAt l) (runP isLetter (l.drop (rAt l)))
theorem hasPrefix_at (l : Bs) (c : UInt8) : Lib.hasPrefix l [c] = atIs l 0 c := by
  cases l with
  | nil => rfl
  | cons d l =>
    unfold Lib.hasPrefix atIs
    simp only [List.isPrefixOf, Bool.and_true, List.getElem?_cons_zero]
    rw [Bool.eq_iff_iff, beq_iff_eq, beq_iff_eq]
    constructor
    · intro h; rw [h]
    · intro h; injection h with h; exact h.symm
theorem trimPrefix_at (l : Bs) (c : UInt8) : Lib.trimPrefix l [c] = if atIs l 0 c then l.drop 1 else l := by
  unfold Lib.trimPrefix
  rw [hasPrefix_at]
  rfl
theorem rMarkEnd_eq (l : Bs) (k : Nat) (hk : k ≤ l.length) : rMarkEnd l k = pTail (l.drop k) := by
  unfold rMarkEnd pTail
  have e : atIs (l.drop k) 0 48 = atIs l k 48 := by unfold atIs; rw [List.getElem?_drop, Nat.add_zero]
  have hle := runP_le isDigit (l.drop k)
  rw [List.length_drop] at hle
  rw [e, List.length_drop, Bool.eq_iff_iff]
  simp only [Bool.and_eq_true, decide_eq_true_eq]
  constructor
  · rintro ⟨⟨⟨h1, h2⟩, h3⟩, h4⟩; exact ⟨⟨⟨by omega, h1⟩, h2⟩, h3⟩
  · rintro ⟨⟨⟨h1, h2⟩, h3⟩, h4⟩; exact ⟨⟨⟨h2, h3⟩, h4⟩, by omega⟩
theorem atIs_drop (l : Bs) (k j : Nat) (c : UInt8) : atIs (l.drop k) j c = atIs l (k + j) c := by unfold atIs; rw [List.getElem?_drop]
theorem rMark_eq (l : Bs) : rMark l = pMark l := by
  have hA : rAt l ≤ l.length := by
    unfold rAt
    split
    · rename_i h; exact at_lt _ _ _ h
    · exact Nat.zero_le _
  have ht : Lib.trimPrefix l [36] = l.drop (rAt l) := by
    rw [trimPrefix_at]
    unfold rAt
    cases atIs l 0 36 <;> rfl
  unfold rMark pMark
  rw [ht, hasPrefix_at]
  have hle := runP_le isLetter (l.drop (rAt l))
  unfold rMark1 pMark1
  rw [List.length_drop] at hle
  generalize rAt l = a at *
  generalize runP isLetter (l.drop a) = n at *
  by_cases h3 : 3 < n
  · rw [if_pos h3, if_pos h3]
  · rw [if_neg h3, if_neg h3, List.drop_drop]
    by_cases he : a + n = l.length
    · have hd : l.drop (a + n) = [] := List.drop_of_length_le (by omega)
      have hf : rMarkEnd l (a + n) = false := by unfold rMarkEnd; rw [hd]; rfl
      by_cases h0 : 0 < n
      · refine Eq.trans (b := atIs l 0 36) ?_ ?_
        · rw [if_pos ⟨h0, he⟩]
        · rw [hd, if_pos (by rfl), decide_eq_true h0, Bool.and_true]
      · refine Eq.trans (b := false) ?_ ?_
        · rw [if_neg (fun h => h0 h.1), if_neg (fun h => h0 h.1), hf]
          split <;> rfl
        · rw [hd, if_pos (by rfl), decide_eq_false h0, Bool.and_false]
    · have hd : (l.drop (a + n)).isEmpty = false := by
        cases hx : l.drop (a + n) with
        | nil =>
          have := congrArg List.length hx
          rw [List.length_drop] at this
          simp at this
          omega
        | cons c t => rfl
      have hE := rMarkEnd_eq l (a + n) (by omega)
      by_cases h0 : 0 < n
      · cases h36 : atIs l (a + n) 36
        · refine Eq.trans (b := rMarkEnd l (a + n)) ?_ ?_
          · rw [if_neg (fun h => he h.2), if_neg (fun h => by cases h.2), if_neg (fun h => by omega)]
          · rw [hd, if_neg (by decide), if_pos h0, trimPrefix_at, atIs_drop, Nat.add_zero (a + n), h36, if_neg (by decide)]
            exact hE
        · refine Eq.trans (b := rMarkEnd l (a + n + 1)) ?_ ?_
          · rw [if_neg (fun h => he h.2), if_pos ⟨h0, rfl⟩]
          · rw [hd, if_neg (by decide), if_pos h0, trimPrefix_at, atIs_drop, Nat.add_zero (a + n), h36, if_pos rfl, List.drop_drop]
            exact rMarkEnd_eq l _ (at_lt _ _ _ h36)
      · cases h36 : atIs l 0 36
        · refine Eq.trans (b := false) ?_ ?_
          · rw [if_neg (fun h => h0 h.1), if_neg (fun h => h0 h.1), if_pos ⟨by omega, rfl⟩]
          · rw [hd, if_neg (by decide), if_neg h0, if_neg (by decide)]
        · refine Eq.trans (b := rMarkEnd l (a + n)) ?_ ?_
          · rw [if_neg (fun h => h0 h.1), if_neg (fun h => h0 h.1), if_neg (fun h => by cases h.2)]
          · rw [hd, if_neg (by decide), if_neg h0, if_pos rfl]
            exact hE
end Go.Proofs.YtpdaloohgfnbhaaGreatDoor
