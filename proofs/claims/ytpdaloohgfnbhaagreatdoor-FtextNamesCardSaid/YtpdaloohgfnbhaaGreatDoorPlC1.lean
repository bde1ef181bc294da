/-
  csv in plain words: fields, lines, rows of words.
-/
import Derived.Test.YtpdaloohgfnbhaaGreatDoorPlainM
import Derived.Test.YtpdaloohgfnbhaaGreatDoorPlainX
namespace Go.Proofs.YtpdaloohgfnbhaaGreatDoor
open Go.RowKit

/-- the word behind the first '"' of a field, and what is behind the field; or an error -/
def qRun (acc : Bs) : Bs → Bs × Bs × Int
  | [] => ([], [], 13)
  | c :: t =>
    if c = 34 then
      match t with
      | [] => ([], [], 13)
      | d :: r => if d = 34 then qRun (acc ++ [34]) r else if d = 44 ∨ d = 10 then (acc, d :: r, 0) else ([], [], 6)
    else qRun (acc ++ [c]) t
termination_by l => l.length
def isSep (c : UInt8) : Bool := c == 44 || c == 34 || c == 10 || c == 13
def uLen (l : Bs) : Nat := runP (fun c => !isSep c) l
def cField (l : Bs) : Bs × Bs × Int :=
  if atIs l 0 34 = true then qRun [] (l.drop 1)
  else if uLen l = l.length then ([], [], 13)
  else if atIs l (uLen l) 34 = true ∨ atIs l (uLen l) 13 = true then ([], [], 6)
  else (l.take (uLen l), l.drop (uLen l), 0)
theorem qRun_nil (acc : Bs) : qRun acc [] = ([], [], 13) := by rw [qRun.eq_def]
theorem qRun_other (acc : Bs) (c : UInt8) (t : Bs) (h : c ≠ 34) : qRun acc (c :: t) = qRun (acc ++ [c]) t := by
  rw [qRun.eq_def]
  dsimp only
  rw [if_neg h]
theorem qRun_end (acc : Bs) : qRun acc [34] = ([], [], 13) := by
  rw [qRun.eq_def]
  dsimp only
  rw [if_pos rfl]
theorem qRun_quote (acc : Bs) (d : UInt8) (r : Bs) : qRun acc (34 :: d :: r) = if d = 34 then qRun (acc ++ [34]) r else if d = 44 ∨ d = 10 then (acc, d :: r, 0) else ([], [], 6) := by
  rw [qRun.eq_def]
  dsimp only
  rw [if_pos rfl]
theorem qRun_app : ∀ (t acc r : Bs), (34 : UInt8) ∉ t → qRun acc (t ++ r) = qRun (acc ++ t) r
  | [], acc, r, _ => by simp
  | c :: t, acc, r, h => by
    have hc : c ≠ 34 := fun e => h (by rw [e]; exact List.mem_cons_self ..)
    rw [List.cons_append, qRun_other _ _ _ hc, qRun_app t _ r (fun hm => h (List.mem_cons_of_mem _ hm))]
    simp
theorem qRun_none (l acc : Bs) (h : (34 : UInt8) ∉ l) : qRun acc l = ([], [], 13) := by
  have := qRun_app l acc [] h
  rw [List.append_nil] at this
  rw [this, qRun_nil]
theorem qRun_len : ∀ (n : Nat) (l acc : Bs), l.length ≤ n → (qRun acc l).1.length + (qRun acc l).2.1.length ≤ acc.length + l.length ∧ ((qRun acc l).2.2 = 0 → ∃ c r, (qRun acc l).2.1 = c :: r ∧ (c = 44 ∨ c = 10)) := by
  intro n
  induction n with
  | zero =>
    intro l acc hl
    obtain rfl := List.eq_nil_of_length_eq_zero (by omega : l.length = 0)
    rw [qRun_nil]
    exact ⟨by simp, fun h => by cases h⟩
  | succ n ih =>
    intro l acc hl
    cases l with
    | nil => rw [qRun_nil]; exact ⟨by simp, fun h => by cases h⟩
    | cons c t =>
      rw [List.length_cons] at hl
      by_cases hc : c = 34
      · subst hc
        cases t with
        | nil => rw [qRun_end]; exact ⟨by simp, fun h => by cases h⟩
        | cons d r =>
          rw [List.length_cons] at hl
          rw [qRun_quote]
          split
          · obtain ⟨h1, h2⟩ := ih r (acc ++ [34]) (by omega)
            refine ⟨?_, h2⟩
            rw [List.length_append, List.length_singleton] at h1
            rw [List.length_cons, List.length_cons]
            omega
          · split
            · rename_i hd
              exact ⟨by simp, fun _ => ⟨d, r, rfl, hd⟩⟩
            · exact ⟨by simp, fun h => by cases h⟩
      · rw [qRun_other _ _ _ hc]
        obtain ⟨h1, h2⟩ := ih t (acc ++ [c]) (by omega)
        refine ⟨?_, h2⟩
        rw [List.length_append, List.length_singleton] at h1
        rw [List.length_cons]
        omega
theorem uLen_le (l : Bs) : uLen l ≤ l.length := runP_le _ l
theorem uLen_at (l : Bs) (h : uLen l < l.length) : isSep l[uLen l] = true := by
  have h1 : (!isSep l[uLen l]) = false := runP_stop (fun c => !isSep c) l h
  rw [Bool.not_eq_false'] at h1
  exact h1
/-- what a field is: its word is no longer than the text; what is behind it begins with a comma or a line feed -/
theorem cField_ok (l : Bs) : (cField l).1.length + (cField l).2.1.length ≤ l.length ∧ ((cField l).2.2 = 0 → ∃ c r, (cField l).2.1 = c :: r ∧ (c = 44 ∨ c = 10)) := by
  unfold cField
  split
  · obtain ⟨h1, h2⟩ := qRun_len _ (l.drop 1) [] (Nat.le_refl _)
    rw [List.length_nil, List.length_drop] at h1
    exact ⟨by omega, h2⟩
  · split
    · exact ⟨by simp, fun h => by cases h⟩
    · split
      · exact ⟨by simp, fun h => by cases h⟩
      · rename_i h1 h2 h3
        have hlt : uLen l < l.length := by have := uLen_le l; omega
        refine ⟨by rw [List.length_take, List.length_drop]; omega, fun _ => ⟨l[uLen l], l.drop (uLen l + 1), List.drop_eq_getElem_cons hlt, ?_⟩⟩
        have hs := uLen_at l hlt
        unfold isSep at hs
        simp only [Bool.or_eq_true, beq_iff_eq] at hs
        have n34 : l[uLen l] ≠ 34 := fun e => h3 (.inl (by unfold atIs; rw [List.getElem?_eq_getElem hlt, e]; rfl))
        have n13 : l[uLen l] ≠ 13 := fun e => h3 (.inr (by unfold atIs; rw [List.getElem?_eq_getElem hlt, e]; rfl))
        rcases hs with ((hs | hs) | hs) | hs
        · exact .inl hs
        · exact absurd hs n34
        · exact .inr hs
        · exact absurd hs n13
/-- the words of the line with which a text begins, and what is behind it -/
def cLineF : Nat → Bs → List Bs → List Bs × Bs × Int
  | 0, _, _ => ([], [], 13)
  | f + 1, l, ws =>
    if (cField l).2.2 ≠ 0 then ([], [], (cField l).2.2)
    else if atIs (cField l).2.1 0 10 = true then (ws ++ [(cField l).1], (cField l).2.1.drop 1, 0)
    else cLineF f ((cField l).2.1.drop 1) (ws ++ [(cField l).1])
def cLine (l : Bs) (ws : List Bs) : List Bs × Bs × Int := cLineF (l.length + 1) l ws
theorem cLineF_fuel : ∀ (f g : Nat) (l : Bs) (ws : List Bs), l.length < f → l.length < g → cLineF f l ws = cLineF g l ws
  | 0, _, l, _, h, _ => by omega
  | _ + 1, 0, l, _, _, h => by omega
  | f + 1, g + 1, l, ws, h1, h2 => by
    obtain ⟨k1, k2⟩ := cField_ok l
    unfold cLineF
    split
    · rfl
    · rename_i h0
      obtain ⟨c, r, e, _⟩ := k2 (Decidable.not_not.1 h0)
      rw [e] at k1
      rw [List.length_cons] at k1
      split
      · rfl
      · exact cLineF_fuel f g _ _ (by rw [e]; simp; omega) (by rw [e]; simp; omega)
theorem cLine_step (l : Bs) (ws : List Bs) : cLine l ws = if (cField l).2.2 ≠ 0 then ([], [], (cField l).2.2)
    else if atIs (cField l).2.1 0 10 = true then (ws ++ [(cField l).1], (cField l).2.1.drop 1, 0)
    else cLine ((cField l).2.1.drop 1) (ws ++ [(cField l).1]) := by
  obtain ⟨k1, k2⟩ := cField_ok l
  unfold cLine
  conv => lhs; unfold cLineF
  split
  · rfl
  · rename_i h0
    obtain ⟨c, r, e, _⟩ := k2 (Decidable.not_not.1 h0)
    rw [e] at k1
    rw [List.length_cons] at k1
    split
    · rfl
    · exact cLineF_fuel _ _ _ _ (by rw [e]; simp; omega) (by rw [e]; simp)
theorem cLine_len : ∀ (n : Nat) (l : Bs) (ws : List Bs), l.length ≤ n → (cLine l ws).2.2 = 0 → (cLine l ws).2.1.length < l.length ∧ (cLine l ws).1.length + (cLine l ws).2.1.length ≤ ws.length + l.length ∧ ws.length < (cLine l ws).1.length := by
  intro n
  induction n with
  | zero =>
    intro l ws hl h
    obtain rfl := List.eq_nil_of_length_eq_zero (by omega : l.length = 0)
    rw [cLine_step, if_pos (by decide)] at h
    cases h
  | succ n ih =>
    intro l ws hl h
    obtain ⟨k1, k2⟩ := cField_ok l
    rw [cLine_step] at h ⊢
    by_cases h0 : (cField l).2.2 ≠ 0
    · rw [if_pos h0] at h
      exact absurd h h0
    · rw [if_neg h0] at h ⊢
      obtain ⟨c, r, e, _⟩ := k2 (Decidable.not_not.1 h0)
      rw [e] at k1 h ⊢
      rw [List.length_cons] at k1
      by_cases h10 : atIs (c :: r) 0 10 = true
      · rw [if_pos h10]
        refine ⟨?_, ?_, ?_⟩
        · show r.length < l.length; omega
        · show (ws ++ [(cField l).1]).length + r.length ≤ _
          rw [List.length_append, List.length_singleton]; omega
        · show ws.length < (ws ++ [(cField l).1]).length
          simp
      · rw [if_neg h10] at h ⊢
        have e2 : (c :: r).drop 1 = r := rfl
        rw [e2] at h ⊢
        obtain ⟨q1, q2, q3⟩ := ih r (ws ++ [(cField l).1]) (by omega) h
        rw [List.length_append, List.length_singleton] at q2 q3
        exact ⟨by omega, by omega, by omega⟩
/-- the rows of words, up to a wrong one, and its error -/
def cRowsF : Nat → Bs → List (List Bs) → List (List Bs) × Int
  | 0, _, acc => (acc, 0)
  | f + 1, l, acc => if l = [] then (acc, 0) else if (cLine l []).2.2 ≠ 0 then (acc, (cLine l []).2.2) else cRowsF f (cLine l []).2.1 (acc ++ [(cLine l []).1])
def cRows (l : Bs) (acc : List (List Bs)) : List (List Bs) × Int := cRowsF l.length l acc
theorem cRowsF_fuel : ∀ (f g : Nat) (l : Bs) (acc : List (List Bs)), l.length ≤ f → l.length ≤ g → cRowsF f l acc = cRowsF g l acc
  | 0, 0, l, _, _, _ => rfl
  | 0, g + 1, l, _, h, _ => by
    obtain rfl := List.eq_nil_of_length_eq_zero (by omega : l.length = 0)
    unfold cRowsF; rw [if_pos rfl]
  | f + 1, 0, l, _, _, h => by
    obtain rfl := List.eq_nil_of_length_eq_zero (by omega : l.length = 0)
    unfold cRowsF; rw [if_pos rfl]
  | f + 1, g + 1, l, acc, h1, h2 => by
    unfold cRowsF
    split
    · rfl
    · split
      · rfl
      · rename_i _ h0
        have := (cLine_len l.length l [] (Nat.le_refl _) (Decidable.not_not.1 h0)).1
        exact cRowsF_fuel f g _ _ (by omega) (by omega)
theorem cRows_step (l : Bs) (acc : List (List Bs)) : cRows l acc = if l = [] then (acc, 0) else if (cLine l []).2.2 ≠ 0 then (acc, (cLine l []).2.2) else cRows (cLine l []).2.1 (acc ++ [(cLine l []).1]) := by
  by_cases hl : l = []
  · subst hl; rw [if_pos rfl]; rfl
  · rw [if_neg hl]
    have hp : 0 < l.length := List.length_pos_iff.2 hl
    unfold cRows
    obtain ⟨f, hf⟩ : ∃ f, l.length = f + 1 := ⟨l.length - 1, by omega⟩
    rw [hf]
    conv => lhs; unfold cRowsF
    rw [if_neg hl]
    split
    · rfl
    · rename_i h0
      have := (cLine_len l.length l [] (Nat.le_refl _) (Decidable.not_not.1 h0)).1
      exact cRowsF_fuel _ _ _ _ (by omega) (Nat.le_refl _)
end Go.Proofs.YtpdaloohgfnbhaaGreatDoor
