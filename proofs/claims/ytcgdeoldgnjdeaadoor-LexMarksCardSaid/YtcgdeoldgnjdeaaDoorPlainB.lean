/-
  Plain law: two texts with a blank between have the tokens of both.
-/
import Derived.Test.YtcgdeoldgnjdeaaDoorPlainT
namespace Go.Proofs.YtcgdeoldgnjdeaaDoor
open Go.RowKit

theorem runP_blank (p : UInt8 → Bool) (l r : Bs) (h : p 32 = false) : runP p (l ++ 32 :: r) = runP p l := by
  induction l with
  | nil => simp [runP, h]
  | cons c l ih => simp only [List.cons_append, runP, ih]
theorem atIs_blank (l r : Bs) (k : Nat) (c : UInt8) (hc : c ≠ 32) (hk : k ≤ l.length) : atIs (l ++ 32 :: r) k c = atIs l k c := by
  unfold atIs
  rcases Nat.lt_or_ge k l.length with h | h
  · rw [List.getElem?_append_left h]
  · obtain rfl : k = l.length := by omega
    rw [List.getElem?_append_right (Nat.le_refl _), Nat.sub_self, List.getElem?_cons_zero, List.getElem?_eq_none (Nat.le_refl _)]
    have : ((some 32 : Option UInt8) == some c) = false := by
      rw [beq_eq_false_iff_ne]
      intro e
      injection e with e
      exact hc e.symm
    rw [this]
    rfl
theorem drop_blank (l r : Bs) (k : Nat) (hk : k ≤ l.length) : (l ++ 32 :: r).drop k = l.drop k ++ 32 :: r := List.drop_append_of_le_length hk
theorem pNumA_blank (l r : Bs) : pNumA (l ++ 32 :: r) = pNumA l := by
  unfold pNumA
  rw [runP_blank isDigit l r rfl, atIs_blank l r _ 46 (by decide) (runP_le _ _)]
  cases h : atIs l (runP isDigit l) 46
  · simp
  · have := at_lt _ _ _ h
    rw [drop_blank l r _ this, runP_blank isDigit _ r rfl]
theorem pNumber_blank (l r : Bs) : pNumber (l ++ 32 :: r) = pNumber l := by
  unfold pNumber
  rw [pNumA_blank]
  have hle := pNumA_le l
  generalize pNumA l = b at *
  unfold pNumE
  rw [atIs_blank l r b 101 (by decide) hle, atIs_blank l r b 69 (by decide) hle]
  by_cases h : b = 0 ∨ (atIs l b 101 = false ∧ atIs l b 69 = false)
  · rw [if_pos h, if_pos h]
  · rw [if_neg h, if_neg h]
    have hlt : b < l.length := by
      rcases Nat.lt_or_ge b l.length with h1 | h1
      · exact h1
      · exact absurd (Or.inr ⟨at_out _ _ _ h1, at_out _ _ _ h1⟩) h
    have hp : pPow (l ++ 32 :: r) b = pPow l b := by
      unfold pPow
      rw [atIs_blank l r _ 43 (by decide) hlt, atIs_blank l r _ 45 (by decide) hlt]
    have hpl := pPow_le l b hlt
    rw [hp, drop_blank l r _ hpl, runP_blank isDigit _ r rfl]
theorem take_blank (l r : Bs) (k : Nat) (hk : k ≤ l.length) : (l ++ 32 :: r).take k = l.take k := List.take_append_of_le_length hk
theorem pWord_blank (l r : Bs) : pWord (l ++ 32 :: r) = pWord l := by
  unfold pWord
  rw [runP_blank isWord l r rfl, take_blank l r _ (runP_le _ _)]
theorem pText_blank (l r : Bs) (x : Bs × Nat) (h : pText l = some x) : pText (l ++ 32 :: r) = some x := by
  have key : ∀ n (l : Bs), l.length ≤ n → ∀ x, pText l = some x → pText (l ++ 32 :: r) = some x := by
    intro n
    induction n with
    | zero => intro l hl x hx; cases l with
      | nil => simp [pText] at hx
      | cons c l => simp at hl
    | succ n ih =>
      intro l hl x hx
      match l, hl, hx with
      | [], _, hx => simp [pText] at hx
      | [c], _, hx =>
        simp only [pText] at hx
        split at hx
        · rename_i e
          subst e
          rw [← hx]
          exact pText_end (32 :: r) (by intro y h; injection h with h; cases h)
        · cases hx
      | c :: d :: l, hl, hx =>
        simp only [List.length_cons] at hl
        by_cases hc : c = 34
        · subst hc
          by_cases hd : d = 34
          · subst hd
            rw [pText_two] at hx
            rw [List.cons_append, List.cons_append, pText_two]
            cases hy : pText l with
            | none => rw [hy] at hx; cases hx
            | some y => rw [ih l (by omega) y hy, ← hy, hx]
          · rw [pText_end _ (by intro y h; injection h with h; exact hd h)] at hx
            rw [List.cons_append, List.cons_append, pText_end _ (by intro y h; injection h with h; exact hd h), hx]
        · rw [pText_other _ _ hc] at hx
          rw [List.cons_append, pText_other _ _ hc]
          cases hy : pText (d :: l) with
          | none => rw [hy] at hx; cases hx
          | some y => rw [ih (d :: l) (by simp only [List.length_cons]; omega) y hy, ← hy, hx]
  exact key l.length l (Nat.le_refl _) x h
theorem faultB_blank : ∀ k, 32 ∉ faultB k := by
  intro k
  match k with
  | 0 => decide
  | 1 => decide
  | 2 => decide
  | 3 => decide
  | 4 => decide
  | 5 => decide
  | 6 => decide
  | 7 => decide
  | 8 => decide
  | 9 => decide
  | k + 10 => exact List.not_mem_nil
theorem pFaultAt_blank (l r : Bs) (k : Nat) : pFaultAt (l ++ 32 :: r) k = pFaultAt l k := by
  unfold pFaultAt
  have hb := faultB_blank k
  generalize faultB k = t at *
  by_cases h : t.length ≤ l.length
  · rw [take_blank l r _ h]
    simp [h]
    omega
  · have e2 : decide (t.length ≤ l.length) = false := decide_eq_false h
    rw [e2, Bool.false_and]
    by_cases h3 : t.length ≤ (l ++ 32 :: r).length
    · have e3 : (pFold ((l ++ 32 :: r).take t.length) == t) = false := by
        rw [beq_eq_false_iff_ne]
        intro e
        apply hb
        rw [← e]
        unfold pFold
        rw [List.mem_map]
        refine ⟨32, ?_, rfl⟩
        have e4 : ((l ++ 32 :: r).take t.length)[l.length]? = some 32 := by
          rw [List.getElem?_take_of_lt (by omega), List.getElem?_append_right (Nat.le_refl _), Nat.sub_self]
          rfl
        exact List.mem_of_getElem? e4
      rw [e3, Bool.and_false]
    · rw [decide_eq_false h3, Bool.false_and]
theorem find_congr (p q : Nat → Bool) (l : List Nat) (h : ∀ i, p i = q i) : l.find? p = l.find? q := by
  have : p = q := funext h
  rw [this]
theorem pFaultB_blank (l r : Bs) : pFaultB (l ++ 32 :: r) = pFaultB l := by
  unfold pFaultB pFault
  rw [atIs_blank l r 0 35 (by decide) (Nat.zero_le _), find_congr _ _ _ (pFaultAt_blank l r)]
theorem pSign_blank (l r : Bs) (hp : 0 < l.length) : pSign (l ++ 32 :: r) = pSign l := by
  cases l with
  | nil => simp at hp
  | cons c l =>
    cases l with
    | nil =>
      unfold pSign Lib.hasPrefix
      simp [List.isPrefixOf]
    | cons d l => rfl
theorem letter0_blank (l r : Bs) (hp : 0 < l.length) : letter0 (l ++ 32 :: r) = letter0 l := by
  cases l with
  | nil => simp at hp
  | cons c l => rfl
theorem pSign_le' (l : Bs) (hp : 0 < l.length) : pSign l ≤ l.length := pSign_le l hp
theorem pToken_blank (l r : Bs) (hp : 0 < l.length) (h0 : (pToken l).2.2 ≠ 0) : pToken (l ++ 32 :: r) = pToken l := by
  unfold pToken at h0 ⊢
  rw [pNumber_blank, letter0_blank l r hp, atIs_blank l r 0 95 (by decide) (Nat.zero_le _), atIs_blank l r 0 36 (by decide) (Nat.zero_le _), atIs_blank l r 0 34 (by decide) (Nat.zero_le _), pWord_blank, pFaultB_blank l r, pSign_blank l r hp,
    take_blank l r _ (pNumber_le l), take_blank l r _ (pSign_le l hp)]
  by_cases h1 : 0 < pNumber l
  · rw [if_pos h1, if_pos h1]
  · rw [if_neg h1] at h0 ⊢
    rw [if_neg h1]
    by_cases h2 : (letter0 l || atIs l 0 95 || atIs l 0 36) = true
    · rw [if_pos h2, if_pos h2]
    · rw [if_neg h2] at h0 ⊢
      rw [if_neg h2]
      by_cases h3 : atIs l 0 34 = true
      · rw [if_pos h3] at h0 ⊢
        rw [if_pos h3]
        unfold pQuoted at h0 ⊢
        cases hx : pText (l.drop 1) with
        | none => rw [hx] at h0; exact absurd rfl h0
        | some x =>
          rw [drop_blank l r 1 hp, pText_blank _ r x hx]
      · rw [if_neg h3, if_neg h3]
/-- places moved on -/
def shiftTok (m : Nat) (t : Tok) : Tok := ⟨t.kind, t.text, t.place + m⟩
def shiftRes (m : Nat) : Except Nat (List Tok) → Except Nat (List Tok)
  | .error p => .error (p + m)
  | .ok ts => .ok (ts.map (shiftTok m))
theorem lexGo_shift (m : Nat) : ∀ (f : Nat) (l : Bs) (k : Nat), lexGo f l (k + m) = shiftRes m (lexGo f l k) := by
  intro f
  induction f with
  | zero => intro l k; rfl
  | succ f ih =>
    intro l k
    cases l with
    | nil => rfl
    | cons c r =>
      simp only [lexGo]
      split
      · rw [show k + m + 1 = k + 1 + m by omega]; exact ih r (k + 1)
      · split
        · rfl
        · rw [show k + m + (pToken (c :: r)).2.2 = k + (pToken (c :: r)).2.2 + m by omega, ih]
          cases lexGo f ((c :: r).drop (pToken (c :: r)).2.2) (k + (pToken (c :: r)).2.2) <;> rfl
theorem lexFrom_shift (l : Bs) (k m : Nat) : lexFrom l (k + m) = shiftRes m (lexFrom l k) := lexGo_shift m _ _ _
theorem lexFrom_beside (t : Bs) : ∀ (n : Nat) (s : Bs) (k : Nat) (a : List Tok), s.length ≤ n → lexFrom s k = .ok a → lexFrom (s ++ 32 :: t) k = appTok a (lexFrom t (k + s.length + 1)) := by
  intro n
  induction n with
  | zero =>
    intro s k a hs h
    obtain rfl : s = [] := List.eq_nil_of_length_eq_zero (by omega)
    rw [lexFrom_nil] at h
    injection h with h
    subst h
    rw [List.nil_append, lexFrom_blank]
    show lexFrom t (k + 1) = appTok [] (lexFrom t (k + 1))
    cases lexFrom t (k + 1) <;> rfl
  | succ n ih =>
    intro s k a hs h
    cases s with
    | nil =>
      rw [lexFrom_nil] at h
      injection h with h
      subst h
      rw [List.nil_append, lexFrom_blank]
      show lexFrom t (k + 1) = appTok [] (lexFrom t (k + 1))
      cases lexFrom t (k + 1) <;> rfl
    | cons c r =>
      simp only [List.length_cons] at hs
      by_cases hc : c = 32
      · subst hc
        rw [lexFrom_blank] at h
        rw [List.cons_append, lexFrom_blank, ih r (k + 1) a (by omega) h]
        rw [show k + 1 + r.length + 1 = k + (32 :: r : Bs).length + 1 by simp only [List.length_cons]; omega]
      · by_cases h0 : (pToken (c :: r)).2.2 = 0
        · rw [lexFrom_bad c r k hc h0] at h; cases h
        · have hp : 0 < (c :: r).length := by simp
          have hle := pToken_le (c :: r) hp
          have e := pToken_blank (c :: r) t hp h0
          rw [lexFrom_tok c r k hc h0] at h
          cases hx : lexFrom ((c :: r).drop (pToken (c :: r)).2.2) (k + (pToken (c :: r)).2.2) with
          | error p => rw [hx] at h; cases h
          | ok b =>
            rw [hx] at h
            injection h with h
            subst h
            rw [List.cons_append] at e
            rw [List.cons_append, lexFrom_tok c (r ++ 32 :: t) k hc (by rw [e]; exact h0), e, ← List.cons_append, drop_blank (c :: r) t _ hle]
            rw [ih _ _ b (by rw [List.length_drop, List.length_cons]; omega) hx]
            rw [show k + (pToken (c :: r)).2.2 + ((c :: r).drop (pToken (c :: r)).2.2).length + 1 = k + (c :: r).length + 1 by rw [List.length_drop]; omega]
            cases lexFrom t (k + (c :: r).length + 1) <;> rfl
theorem lexGo_err : ∀ (f : Nat) (l : Bs) (k p : Nat), lexGo f l k = .error p → k ≤ p ∧ p < k + l.length := by
  intro f
  induction f with
  | zero => intro l k p h; cases h
  | succ f ih =>
    intro l k p h
    cases l with
    | nil => cases h
    | cons c r =>
      simp only [lexGo] at h
      split at h
      · have := ih r (k + 1) p h
        simp only [List.length_cons]
        omega
      · split at h
        · injection h with h
          subst h
          simp
        · cases hx : lexGo f ((c :: r).drop (pToken (c :: r)).2.2) (k + (pToken (c :: r)).2.2) with
          | error q =>
            rw [hx] at h
            injection h with h
            subst h
            have := ih _ _ q hx
            have hle := pToken_le (c :: r) (by simp)
            rw [List.length_drop] at this
            omega
          | ok ts => rw [hx] at h; cases h
theorem pLex_err (l : Bs) (p : Nat) (h : pLex l = .error p) : p < l.length := by
  have := (lexGo_err _ _ _ _ h).2
  omega
theorem lexGo_ok_len : ∀ (f : Nat) (l : Bs) (k : Nat) (ts : List Tok), lexGo f l k = .ok ts → ts.length ≤ l.length := by
  intro f
  induction f with
  | zero => intro l k ts h; injection h with h; subst h; simp
  | succ f ih =>
    intro l k ts h
    cases l with
    | nil => injection h with h; subst h; simp
    | cons c r =>
      simp only [lexGo] at h
      split at h
      · have := ih r (k + 1) ts h
        simp only [List.length_cons]
        omega
      · split at h
        · cases h
        · rename_i h0
          cases hx : lexGo f ((c :: r).drop (pToken (c :: r)).2.2) (k + (pToken (c :: r)).2.2) with
          | error q => rw [hx] at h; cases h
          | ok us =>
            rw [hx] at h
            injection h with h
            subst h
            have := ih _ _ us hx
            rw [List.length_drop] at this
            simp only [List.length_cons] at this ⊢
            omega
theorem pLex_len (l : Bs) (ts : List Tok) (h : pLex l = .ok ts) : ts.length ≤ l.length := lexGo_ok_len _ _ _ _ h
theorem lexGo_place : ∀ (f : Nat) (l : Bs) (k : Nat) (ts : List Tok), lexGo f l k = .ok ts → ∀ t ∈ ts, t.place ≤ k + l.length := by
  intro f
  induction f with
  | zero => intro l k ts h; injection h with h; subst h; simp
  | succ f ih =>
    intro l k ts h
    cases l with
    | nil => injection h with h; subst h; simp
    | cons c r =>
      simp only [lexGo] at h
      split at h
      · intro t ht
        have := ih r (k + 1) ts h t ht
        simp only [List.length_cons]
        omega
      · split at h
        · cases h
        · cases hx : lexGo f ((c :: r).drop (pToken (c :: r)).2.2) (k + (pToken (c :: r)).2.2) with
          | error q => rw [hx] at h; cases h
          | ok us =>
            rw [hx] at h
            injection h with h
            subst h
            intro t ht
            rcases List.mem_cons.1 ht with rfl | ht
            · simp
            · have := ih _ _ us hx t ht
              have hle := pToken_le (c :: r) (by simp)
              rw [List.length_drop] at this
              omega
theorem pLex_place (l : Bs) (ts : List Tok) (h : pLex l = .ok ts) : ∀ t ∈ ts, t.place ≤ l.length := by
  intro t ht
  have := lexGo_place _ _ _ _ h t ht
  omega
/-- the first k places moved on -/
def stepToks (m k : Nat) (ts : List Tok) : List Tok := (ts.take k).map (shiftTok m) ++ ts.drop k
theorem stepToks_zero (m : Nat) (ts : List Tok) : stepToks m 0 ts = ts := by simp [stepToks]
theorem stepToks_all (m : Nat) (ts : List Tok) : stepToks m ts.length ts = ts.map (shiftTok m) := by simp [stepToks]
theorem stepToks_len (m k : Nat) (ts : List Tok) : (stepToks m k ts).length = ts.length := by simp [stepToks]; omega
theorem stepToks_get (m k : Nat) (ts : List Tok) (h : k < ts.length) (h' : k < (stepToks m k ts).length) : (stepToks m k ts)[k] = ts[k] := by
  have e : ((ts.take k).map (shiftTok m)).length = k := by simp; omega
  have h2 : (stepToks m k ts)[k]? = ts[k]? := by
    unfold stepToks
    rw [List.getElem?_append_right (by omega), e, Nat.sub_self, List.getElem?_drop, Nat.add_zero]
  rw [List.getElem?_eq_getElem h', List.getElem?_eq_getElem h] at h2
  injection h2
theorem stepToks_set (m k : Nat) (ts : List Tok) (h : k < ts.length) : (stepToks m k ts).set k (shiftTok m ts[k]) = stepToks m (k + 1) ts := by
  have e : ((ts.take k).map (shiftTok m)).length = k := by simp; omega
  unfold stepToks
  rw [List.set_append_right (h := by omega), e, Nat.sub_self, List.drop_eq_getElem_cons h, List.set_cons_zero, List.take_succ_eq_append_getElem h]
  rw [List.map_append, List.append_assoc]
  rfl
theorem rowCells_set (ts : List Tok) (k : Nat) (h : k < ts.length) (p : Nat) : rowCells (ts.set k ⟨ts[k].kind, ts[k].text, p⟩) = (rowCells ts).set (k * 3 + 2) (.int .i64 p) := by
  induction ts generalizing k with
  | nil => simp at h
  | cons t ts ih =>
    cases k with
    | zero => simp [rowCells, tokCells]
    | succ k =>
      have e : ∀ t us, rowCells (t :: us) = tokCells t ++ rowCells us := by intro t us; simp [rowCells]
      have hl : (tokCells t).length = 3 := rfl
      rw [List.set_cons_succ, e, e, List.set_append_right (h := by omega), hl]
      rw [show (k + 1) * 3 + 2 - 3 = k * 3 + 2 by omega]
      have := ih k (by simpa using h)
      simp only [List.getElem_cons_succ]
      rw [this]
theorem pLex_beside (s t : Bs) (a : List Tok) (h : pLex s = .ok a) : pLex (s ++ 32 :: t) = appTok a (shiftRes (s.length + 1) (pLex t)) := by
  unfold pLex at h ⊢
  rw [lexFrom_beside t s.length s 0 a (Nat.le_refl _) h, show 0 + s.length + 1 = 0 + (s.length + 1) by omega, lexFrom_shift]
end Go.Proofs.YtcgdeoldgnjdeaaDoor
