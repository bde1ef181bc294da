/-
  Plain law: the text of a right mark is one mark, and its parts are read again.
-/
import Derived.Test.YtcgdeoldgnjdeaaDoorPlainJ
import Derived.Test.YtcgdeoldgnjdeaaDoorPlainM
namespace Go.Proofs.YtcgdeoldgnjdeaaDoor
open Go.RowKit

/-- a column's letters, of the column's number from 1 on -/
def lets (c : Nat) : Bs := if _h : c = 0 then [] else lets ((c - 1) / 26) ++ [UInt8.ofNat (65 + (c - 1) % 26)]
termination_by c
decreasing_by omega
theorem lets_zero : lets 0 = [] := by rw [lets, dif_pos rfl]
theorem lets_step (c : Nat) (h : 0 < c) : lets c = lets ((c - 1) / 26) ++ [UInt8.ofNat (65 + (c - 1) % 26)] := by rw [lets, dif_neg (by omega)]
def isCap (c : UInt8) : Bool := decide (65 ≤ c.toNat) && decide (c.toNat ≤ 90)
theorem cap_letter (c : UInt8) (h : isCap c = true) : isLetter c = true := by unfold isCap at h; unfold isLetter; rw [h]; simp
theorem cap_of (d : Nat) (h : d < 26) : isCap (UInt8.ofNat (65 + d)) = true ∧ (UInt8.ofNat (65 + d)).toNat = 65 + d := by
  have := (by decide : ∀ d, d < 26 → isCap (UInt8.ofNat (65 + d)) = true ∧ (UInt8.ofNat (65 + d)).toNat = 65 + d)
  exact this d h
/-- what letters come to -/
def colOf (l : Bs) : Nat := l.foldl (fun a c => a * 26 + (c.toNat - 65) + 1) 0
theorem colOf_snoc (l : Bs) (c : UInt8) : colOf (l ++ [c]) = colOf l * 26 + (c.toNat - 65) + 1 := by simp [colOf]
theorem lets_is (c : Nat) : (∀ x ∈ lets c, isCap x = true) ∧ colOf (lets c) = c := by
  induction c using Nat.strongRecOn with
  | _ c ih =>
    by_cases h : c = 0
    · subst h; rw [lets_zero]; exact ⟨fun x hx => by simp at hx, rfl⟩
    · rw [lets_step c (by omega)]
      obtain ⟨i1, i2⟩ := ih ((c - 1) / 26) (by omega)
      obtain ⟨c1, c2⟩ := cap_of ((c - 1) % 26) (by omega)
      refine ⟨fun x hx => ?_, ?_⟩
      · rcases List.mem_append.1 hx with h | h
        · exact i1 x h
        · rw [List.mem_singleton.1 h]; exact c1
      · rw [colOf_snoc, i2, c2]; omega
theorem lets_pos (c : Nat) (h : 0 < c) : 0 < (lets c).length := by rw [lets_step c h]; simp
theorem lets_len (c : Nat) (h : c ≤ 18278) : (lets c).length ≤ 3 := by
  by_cases h0 : c = 0
  · subst h0; rw [lets_zero]; simp
  · rw [lets_step c (by omega), List.length_append]
    by_cases h1 : (c - 1) / 26 = 0
    · rw [h1, lets_zero]; simp
    · rw [lets_step _ (by omega), List.length_append]
      by_cases h2 : ((c - 1) / 26 - 1) / 26 = 0
      · rw [h2, lets_zero]; simp
      · rw [lets_step _ (by omega), List.length_append]
        have h3 : (((c - 1) / 26 - 1) / 26 - 1) / 26 = 0 := by omega
        rw [h3, lets_zero]; simp
def dolB (b : Bool) : Bs := if b then [36] else []
/-- a mark's text -/
def markB (row col : Nat) (fr fc : Bool) : Bs := dolB fc ++ (lets (col + 1) ++ (dolB fr ++ Lib.decDigits (row + 1)))
theorem dec_head (u : Nat) (h : 0 < u) : atIs (Lib.decDigits u) 0 48 = false := by
  induction u using Nat.strongRecOn with
  | _ u ih =>
    rw [Lib.decDigits]
    by_cases h1 : u < 10
    · rw [dif_pos h1]
      have := (by decide : ∀ d, d < 10 → 0 < d → atIs [UInt8.ofNat (48 + d)] 0 48 = false)
      exact this u h1 h
    · rw [dif_neg h1]
      have i := ih (u / 10) (by omega) (by omega)
      have hp : (Lib.decDigits (u / 10)).length ≠ 0 := by
        rw [Lib.decDigits]; split <;> simp
      unfold atIs at i ⊢
      rw [List.getElem?_append_left (by omega)]
      exact i
theorem dec_pos (u : Nat) : 0 < (Lib.decDigits u).length := by rw [Lib.decDigits]; split <;> simp
theorem dec_short (u k : Nat) (h : u < 10 ^ (k + 1)) : (Lib.decDigits u).length ≤ k + 1 := by
  induction k generalizing u with
  | zero => rw [Lib.decDigits, dif_pos (by omega)]; simp
  | succ k ih =>
    rw [Lib.decDigits]
    by_cases h1 : u < 10
    · rw [dif_pos h1]; simp
    · rw [dif_neg h1, List.length_append]
      have := ih (u / 10) (by rw [Nat.pow_succ] at h; omega)
      simp; omega
theorem atIs_dol (b : Bool) (l : Bs) (h : atIs l 0 36 = false) : atIs (dolB b ++ l) 0 36 = b := by
  cases b
  · exact h
  · rfl
theorem trim_dol (b : Bool) (l : Bs) (h : atIs l 0 36 = false) : Lib.trimPrefix (dolB b ++ l) [36] = l := by
  rw [trimPrefix_at, atIs_dol b l h]
  cases b <;> rfl
theorem lets_at (c : Nat) (h : 0 < c) (l : Bs) (d : UInt8) (hd : isCap d = false) : atIs (lets c ++ l) 0 d = false := by
  have hp := lets_pos c h
  have hc := (lets_is c).1
  cases he : lets c with
  | nil => rw [he] at hp; simp at hp
  | cons x t =>
    rw [List.cons_append, atIs_cons]
    have := hc x (by rw [he]; simp)
    rw [beq_eq_false_iff_ne]
    intro e
    rw [e, hd] at this
    cases this
theorem dec_at (u : Nat) (d : UInt8) (hd : isDigit d = false) : atIs (Lib.decDigits u) 0 d = false := by
  have hp := dec_pos u
  have hc := (dec_dig u).1
  cases he : Lib.decDigits u with
  | nil => rw [he] at hp; simp at hp
  | cons x t =>
    rw [atIs_cons]
    have := hc x (by rw [he]; simp)
    rw [beq_eq_false_iff_ne]
    intro e
    rw [e, hd] at this
    cases this
theorem dec_letter (u : Nat) (b : Bool) : runP isLetter (dolB b ++ Lib.decDigits u) = 0 := by
  cases b
  · have hp := dec_pos u
    have hc := (dec_dig u).1
    cases he : Lib.decDigits u with
    | nil => rw [he] at hp; simp at hp
    | cons x t =>
      have h1 := hc x (by rw [he]; simp)
      have h2 : isLetter x = false := by
        rw [isDigit_iff] at h1
        unfold isLetter
        rw [decide_eq_false (by omega : ¬ 97 ≤ x.toNat), decide_eq_false (by omega : ¬ 65 ≤ x.toNat)]
        rfl
      simp [dolB, runP, h2]
  · rfl
theorem mark_letters (row col : Nat) (fr : Bool) : runP isLetter (lets (col + 1) ++ (dolB fr ++ Lib.decDigits (row + 1))) = (lets (col + 1)).length := by
  rw [runP_app _ _ _ (fun c hc => cap_letter c ((lets_is _).1 c hc)), dec_letter]
  rfl
theorem pTail_dec (u : Nat) (h0 : 0 < u) (h : u ≤ 9999999) : pTail (Lib.decDigits u) = true := by
  have h1 : runP isDigit (Lib.decDigits u) = (Lib.decDigits u).length := by
    have := runP_app isDigit [] (Lib.decDigits u) (dec_dig u).1
    simpa [runP] using this
  have h2 := dec_short u 6 (by omega)
  have h3 := dec_pos u
  unfold pTail
  rw [h1, dec_head u h0, decide_eq_true rfl, decide_eq_true (by omega), decide_eq_true (by omega)]
  rfl
theorem mark_is (row col : Nat) (fr fc : Bool) (hr : row ≤ 9999998) (hc : col ≤ 18277) : pMark (markB row col fr fc) = true := by
  have h0 := lets_at (col + 1) (by omega) (dolB fr ++ Lib.decDigits (row + 1)) 36 rfl
  unfold pMark markB
  rw [hasPrefix_at, trim_dol fc _ h0, atIs_dol fc _ h0]
  unfold pMark1
  have hl := lets_len (col + 1) (by omega)
  have hp := lets_pos (col + 1) (by omega)
  have hd := dec_pos (row + 1)
  rw [mark_letters, List.drop_left, if_neg (by omega), if_neg, if_pos hp, trim_dol fr _ (dec_at _ 36 rfl)]
  · exact pTail_dec _ (by omega) (by omega)
  · intro h
    rw [List.isEmpty_iff] at h
    have := congrArg List.length h
    rw [List.length_append, List.length_nil] at this
    omega
theorem mark_word (row col : Nat) (fr fc : Bool) : ∀ c ∈ markB row col fr fc, isWord c = true := by
  have hd : ∀ b, ∀ c ∈ dolB b, isWord c = true := fun b c hc => by
    cases b
    · simp [dolB] at hc
    · simp [dolB] at hc; rw [hc]; rfl
  intro c hc
  unfold markB at hc
  rcases List.mem_append.1 hc with h | h
  · exact hd _ c h
  rcases List.mem_append.1 h with h | h
  · unfold isWord; rw [cap_letter c ((lets_is _).1 c h)]; rfl
  rcases List.mem_append.1 h with h | h
  · exact hd _ c h
  · unfold isWord; rw [(dec_dig _).1 c h]; simp
theorem mark_first (row col : Nat) (fr fc : Bool) : ∃ c r, markB row col fr fc = c :: r ∧ (isLetter c || c == 95 || c == 36) = true ∧ isDigit c = false ∧ c ≠ 46 ∧ c ≠ 32 := by
  cases fc
  · have hp := lets_pos (col + 1) (by omega)
    have hc := (lets_is (col + 1)).1
    cases he : lets (col + 1) with
    | nil => rw [he] at hp; simp at hp
    | cons x t =>
      have h1 := hc x (by rw [he]; simp)
      refine ⟨x, t ++ (dolB fr ++ Lib.decDigits (row + 1)), by unfold markB; rw [he]; rfl, by rw [cap_letter x h1]; rfl, ?_, ?_, ?_⟩
      · unfold isCap at h1
        simp only [Bool.and_eq_true, decide_eq_true_eq] at h1
        unfold isDigit
        rw [decide_eq_false (by omega : ¬ x.toNat ≤ 57), Bool.and_false]
      · intro e; rw [e] at h1; cases h1
      · intro e; rw [e] at h1; cases h1
  · exact ⟨36, _, rfl, rfl, rfl, by decide, by decide⟩
theorem mark_lex (row col : Nat) (fr fc : Bool) (hr : row ≤ 9999998) (hc : col ≤ 18277) : pLex (markB row col fr fc) = .ok [⟨4, markB row col fr fc, 0⟩] := by
  have hm := mark_is row col fr fc hr hc
  have hw := runP_all isWord _ (mark_word row col fr fc)
  obtain ⟨c, r, he, h1, h2, h3, h4⟩ := mark_first row col fr fc
  generalize markB row col fr fc = l at *
  subst he
  have ht : pToken (c :: r) = (4, c :: r, (c :: r).length) := by
    unfold pToken
    rw [pNumber_none c r h2 h3, if_neg (by omega), if_pos]
    · unfold pWord
      rw [hw, List.take_length, if_pos hm]
    · rw [atIs_cons, atIs_cons]; exact h1
  unfold pLex
  rw [lexFrom_tok _ _ _ h4 (by rw [ht]; simp), ht]
  simp only
  rw [List.drop_of_length_le (Nat.le_refl _), lexFrom_nil]
  rfl
theorem mark_len (row col : Nat) (fr fc : Bool) (hr : row ≤ 9999998) (hc : col ≤ 18277) : (markB row col fr fc).length ≤ 12 := by
  have h1 := lets_len (col + 1) (by omega)
  have h2 := dec_short (row + 1) 6 (by omega)
  have h3 : ∀ b, (dolB b).length ≤ 1 := fun b => by cases b <;> decide
  have h4 := h3 fr
  have h5 := h3 fc
  unfold markB
  simp only [List.length_append]
  omega
end Go.Proofs.YtcgdeoldgnjdeaaDoor
