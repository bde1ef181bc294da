/-
  Plain law: tokens that may be, joined, are read again as they were; a text's tokens may be.
-/
import Derived.Test.YtcgdeoldgnjdeaaDoorPlainX
import Derived.Test.YtcgdeoldgnjdeaaDoorPlainK
namespace Go.Proofs.YtcgdeoldgnjdeaaDoor
open Go.RowKit

theorem runP_follow (p : UInt8 → Bool) (l r : Bs) (c : UInt8) (h : p c = false) : runP p (l ++ c :: r) = runP p l := by
  induction l with
  | nil => simp [runP, h]
  | cons d l ih => simp only [List.cons_append, runP, ih]
/-- what a text that follows begins with, if anything -/
def Hd (q : UInt8 → Bool) (r : Bs) : Prop := ∀ c x, r = c :: x → q c = true
theorem runP_end (p : UInt8 → Bool) (l r : Bs) (h : Hd (fun c => !p c) r) : runP p (l ++ r) = runP p l := by
  cases r with
  | nil => simp
  | cons c r => exact runP_follow p l r c (by simpa using h c r rfl)
theorem atIs_left (l r : Bs) (k : Nat) (d : UInt8) (h : k < l.length) : atIs (l ++ r) k d = atIs l k d := by unfold atIs; rw [List.getElem?_append_left h]
theorem atIs_here (l r : Bs) (c d : UInt8) : atIs (l ++ c :: r) l.length d = (c == d) := by
  unfold atIs
  rw [List.getElem?_append_right (Nat.le_refl _), Nat.sub_self]
  rfl
theorem pNumA_follow (l r : Bs) (c : UInt8) (hc : isDigit c = false) (h46 : c ≠ 46) : pNumA (l ++ c :: r) = pNumA l := by
  have hr := runP_follow isDigit l r c hc
  have hle := runP_le isDigit l
  unfold pNumA
  rw [hr]
  cases hat : atIs l (runP isDigit l) 46
  · have : atIs (l ++ c :: r) (runP isDigit l) 46 = false := by
      rcases Nat.lt_or_ge (runP isDigit l) l.length with h | h
      · rw [atIs_left _ _ _ _ h]; exact hat
      · rw [show runP isDigit l = l.length by omega, atIs_here]; simpa using h46
    rw [this]
    rfl
  · have hlt := at_lt _ _ _ hat
    rw [atIs_left _ _ _ _ hlt, hat, List.drop_append_of_le_length (by omega), runP_follow _ _ _ _ hc]
def numEnd (c : UInt8) : Bool := !isDigit c && c != 46 && c != 101 && c != 69
theorem pNumber_follow (l r : Bs) (hn : pNumber l = l.length) (hr : Hd numEnd r) : pNumber (l ++ r) = l.length := by
  cases r with
  | nil => simpa using hn
  | cons c r =>
    have hc := hr c r rfl
    unfold numEnd at hc
    simp only [Bool.and_eq_true, Bool.not_eq_true', bne_iff_ne] at hc
    obtain ⟨⟨⟨c1, c2⟩, c3⟩, c4⟩ := hc
    have eA := pNumA_follow l r c c1 c2
    have hbl := pNumA_le l
    unfold pNumber at hn ⊢
    rw [eA]
    generalize pNumA l = b at *
    unfold pNumE at hn ⊢
    by_cases hb0 : b = 0
    · rw [if_pos (.inl hb0)] at hn ⊢
      exact hn
    by_cases hE : atIs l b 101 = false ∧ atIs l b 69 = false
    · rw [if_pos (.inr hE)] at hn
      rw [if_pos (.inr ⟨by rw [hn, atIs_here]; simpa using c3, by rw [hn, atIs_here]; simpa using c4⟩)]
      exact hn
    · have hlt : b < l.length := by
        rcases Nat.lt_or_ge b l.length with h | h
        · exact h
        · exact absurd ⟨at_out l b 101 h, at_out l b 69 h⟩ hE
      rw [if_neg (by rintro (h | h); exact hb0 h; exact hE h)] at hn
      rw [if_neg (by
        rw [atIs_left _ _ _ _ hlt, atIs_left _ _ _ _ hlt]
        rintro (h | h)
        · exact hb0 h
        · exact hE h)]
      by_cases hd : 0 < runP isDigit (l.drop (pPow l b))
      · rw [if_pos hd] at hn
        have hp1 : b + 1 ≤ pPow l b := by unfold pPow; split <;> omega
        have hpl : pPow l b < l.length := by omega
        have ep : pPow (l ++ c :: r) b = pPow l b := by
          unfold pPow
          rw [atIs_left _ _ _ _ (by omega), atIs_left _ _ _ _ (by omega)]
        rw [ep, List.drop_append_of_le_length (by omega), runP_follow _ _ _ _ c1, if_pos hd]
        exact hn
      · rw [if_neg hd] at hn
        omega
theorem pToken_number (t r : Bs) (h : rIsNumber t = true) (hr : Hd numEnd r) : pToken (t ++ r) = (1, t, t.length) := by
  rw [rIsNumber_eq] at h
  simp only [Bool.and_eq_true, decide_eq_true_eq] at h
  unfold pToken
  rw [pNumber_follow t r h.2 hr, if_pos h.1, List.take_left]
theorem all_of_run (p : UInt8 → Bool) (l : Bs) (h : runP p l = l.length) : ∀ c ∈ l, p c = true := by
  intro c hc
  obtain ⟨k, hk, rfl⟩ := List.getElem_of_mem hc
  exact runP_lt p l k (by omega) hk
theorem wordy_first (t : Bs) (h : wordy t = true) : ∃ c x, t = c :: x ∧ (isLetter c || c == 95 || c == 36) = true := by
  cases t with
  | nil => cases h
  | cons c x =>
    unfold wordy at h
    rw [atIs_cons, atIs_cons] at h
    exact ⟨c, x, rfl, h⟩
theorem word_nodigit (c : UInt8) (h : (isLetter c || c == 95 || c == 36) = true) : isDigit c = false ∧ c ≠ 46 ∧ c ≠ 32 ∧ c ≠ 34 := by
  simp only [Bool.or_eq_true, beq_iff_eq] at h
  rcases h with (h | rfl) | rfl
  · have h' := h
    unfold isLetter at h
    simp only [Bool.or_eq_true, Bool.and_eq_true, decide_eq_true_eq] at h
    refine ⟨?_, ?_, ?_, ?_⟩
    · unfold isDigit
      rw [decide_eq_false (by omega : ¬ c.toNat ≤ 57), Bool.and_false]
    all_goals intro e; rw [e] at h'; cases h'
  · decide
  · decide
theorem pToken_word (t r : Bs) (hw : ∀ c ∈ t, isWord c = true) (hy : wordy t = true) (hr : Hd (fun c => !isWord c) r) :
    pToken (t ++ r) = if pMark t then (4, t, t.length) else if dollars t = 0 then (3, t, t.length) else (0, [], 0) := by
  have hrun : runP isWord (t ++ r) = t.length := by rw [runP_end _ _ _ hr, runP_all _ _ hw]
  obtain ⟨c, x, rfl, hc⟩ := wordy_first t hy
  obtain ⟨h1, h2, _⟩ := word_nodigit c hc
  unfold pToken
  rw [List.cons_append, pNumber_none c _ h1 h2, if_neg (by omega), if_pos (by rw [atIs_cons, atIs_cons]; exact hc)]
  unfold pWord
  rw [← List.cons_append, hrun, List.take_left]
theorem name_parts (t : Bs) (h : rIsName t = true) : wordy t = true ∧ (∀ c ∈ t, isWord c = true) ∧ pMark t = false ∧ dollars t = 0 := by
  unfold rIsName at h
  simp only [Bool.and_eq_true, decide_eq_true_eq, Bool.not_eq_true'] at h
  obtain ⟨⟨⟨h1, h2⟩, h3⟩, h4⟩ := h
  cases hy : wordy t
  · rw [rWord_no t hy] at h1; omega
  · rw [rWord_yes t hy] at h1
    exact ⟨rfl, all_of_run _ _ h1, h3, h4⟩
theorem take_run (p : UInt8 → Bool) (l : Bs) : ∀ c ∈ l.take (runP p l), p c = true := by
  intro c hc
  obtain ⟨k, hk, rfl⟩ := List.getElem_of_mem hc
  rw [List.length_take] at hk
  rw [List.getElem_take]
  exact runP_lt p l k (by omega) (by omega)
/-- what a mark is made of: letters, and what stands behind them -/
theorem mark_parts (l : Bs) (h : pMark l = true) : ∃ (fc : Bool) (A R : Bs), l = dolB fc ++ (A ++ R) ∧ (∀ c ∈ A, isLetter c = true) ∧
    ((R = [] ∧ fc = true) ∨ (∃ fr D, R = dolB fr ++ D ∧ D ≠ [] ∧ AllDig D ∧ ((0 < A.length) ∨ fc = true))) := by
  have hl : l = dolB (atIs l 0 36) ++ Lib.trimPrefix l [36] := by
    rw [trimPrefix_at]
    cases l with
    | nil => rfl
    | cons c x =>
      rw [atIs_cons]
      by_cases e : c = 36
      · subst e; rfl
      · rw [beq_eq_false_iff_ne.2 e]; rfl
  unfold pMark at h
  rw [hasPrefix_at] at h
  generalize Lib.trimPrefix l [36] = s at *
  generalize atIs l 0 36 = fc at *
  unfold pMark1 at h
  refine ⟨fc, s.take (runP isLetter s), s.drop (runP isLetter s), by rw [List.take_append_drop]; exact hl, take_run _ _, ?_⟩
  have hlen : (s.take (runP isLetter s)).length = runP isLetter s := by rw [List.length_take]; have := runP_le isLetter s; omega
  rw [hlen]
  generalize s.drop (runP isLetter s) = R at *
  generalize runP isLetter s = n at *
  by_cases h3 : 3 < n
  · rw [if_pos h3] at h; cases h
  rw [if_neg h3] at h
  by_cases he : R.isEmpty = true
  · rw [if_pos he] at h
    simp only [Bool.and_eq_true] at h
    exact .inl ⟨List.isEmpty_iff.1 he, h.1⟩
  rw [if_neg he] at h
  have tail : ∀ D, pTail D = true → D ≠ [] ∧ AllDig D := by
    intro D hD
    unfold pTail at hD
    simp only [Bool.and_eq_true, decide_eq_true_eq] at hD
    obtain ⟨⟨⟨t1, t2⟩, _⟩, _⟩ := hD
    exact ⟨fun e => by rw [e] at t2; simp [runP] at t2, all_of_run _ _ t1⟩
  by_cases h0 : 0 < n
  · rw [if_pos h0] at h
    obtain ⟨d1, d2⟩ := tail _ h
    have hR : R = dolB (atIs R 0 36) ++ Lib.trimPrefix R [36] := by
      rw [trimPrefix_at]
      cases R with
      | nil => rfl
      | cons c x =>
        rw [atIs_cons]
        by_cases e : c = 36
        · subst e; rfl
        · rw [beq_eq_false_iff_ne.2 e]; rfl
    exact .inr ⟨atIs R 0 36, Lib.trimPrefix R [36], hR, d1, d2, .inl h0⟩
  · rw [if_neg h0] at h
    cases fc
    · cases h
    · obtain ⟨d1, d2⟩ := tail _ h
      exact .inr ⟨false, R, rfl, d1, d2, .inr rfl⟩
theorem dol_word (b : Bool) : ∀ c ∈ dolB b, isWord c = true := fun c hc => by
  cases b
  · simp [dolB] at hc
  · simp [dolB] at hc; rw [hc]; rfl
theorem mark_wordy (l : Bs) (h : pMark l = true) : wordy l = true ∧ ∀ c ∈ l, isWord c = true := by
  obtain ⟨fc, A, R, rfl, hA, hR⟩ := mark_parts l h
  have wA : ∀ c ∈ A, isWord c = true := fun c hc => by unfold isWord; rw [hA c hc]; rfl
  refine ⟨?_, fun c hc => ?_⟩
  · cases fc
    · rcases hR with ⟨_, h⟩ | ⟨fr, D, _, _, _, h | h⟩
      · cases h
      · cases A with
        | nil => simp at h
        | cons x t =>
          show wordy (x :: (t ++ R)) = true
          unfold wordy letter0
          simp only
          rw [hA x (by simp)]
          rfl
      · cases h
    · rfl
  · rcases List.mem_append.1 hc with hc | hc
    · exact dol_word _ c hc
    rcases List.mem_append.1 hc with hc | hc
    · exact wA c hc
    rcases hR with ⟨rfl, _⟩ | ⟨fr, D, rfl, _, hD, _⟩
    · simp at hc
    · rcases List.mem_append.1 hc with hc | hc
      · exact dol_word _ c hc
      · unfold isWord; rw [hD c hc]; simp
end Go.Proofs.YtcgdeoldgnjdeaaDoor
