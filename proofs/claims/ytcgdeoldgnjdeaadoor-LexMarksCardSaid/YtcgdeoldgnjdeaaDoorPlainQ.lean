/-
  Plain words: a text in quotes.
-/
import Derived.Test.YtcgdeoldgnjdeaaDoorPl1
import Derived.Lib.Bytealg
namespace Go.Proofs.YtcgdeoldgnjdeaaDoor
open Go.RowKit

/-- what stands behind an opening quote: the text, and how many bytes it takes with the closing one -/
def pText : Bs → Option (Bs × Nat)
  | [] => none
  | [c] => if c = 34 then some ([], 1) else none
  | c :: d :: l =>
    if c = 34 then (if d = 34 then (pText l).map (fun x => (34 :: x.1, x.2 + 2)) else some ([], 1))
    else (pText (d :: l)).map (fun x => (c :: x.1, x.2 + 1))
theorem pText_other (c : UInt8) (l : Bs) (h : c ≠ 34) : pText (c :: l) = (pText l).map (fun x => (c :: x.1, x.2 + 1)) := by
  cases l with
  | nil => simp [pText, h]
  | cons d l => simp only [pText, if_neg h]
theorem pText_chunk (t l : Bs) (h : 34 ∉ t) : pText (t ++ l) = (pText l).map (fun x => (t ++ x.1, x.2 + t.length)) := by
  induction t with
  | nil => simp
  | cons c t ih =>
    have hc : c ≠ 34 := by intro e; apply h; simp [e]
    rw [List.cons_append, pText_other _ _ hc, ih (by intro e; apply h; simp [e]), Option.map_map]
    cases pText l with
    | none => rfl
    | some x => simp only [Option.map_some, Function.comp, List.length_cons, List.cons_append]; congr 2
theorem pText_no (l : Bs) (h : 34 ∉ l) : pText l = none := by
  have := pText_chunk l [] h
  simpa [pText] using this
theorem pText_end (l : Bs) (h : ∀ r, l ≠ 34 :: r) : pText (34 :: l) = some ([], 1) := by
  cases l with
  | nil => simp [pText]
  | cons d l =>
    have hd : d ≠ 34 := by intro e; exact h l (by rw [e])
    simp [pText, hd]
theorem pText_two (l : Bs) : pText (34 :: 34 :: l) = (pText l).map (fun x => (34 :: x.1, x.2 + 2)) := by simp [pText]
/-- where a byte is first found -/
theorem idx_no (l : Bs) (c : UInt8) (h : Lib.indexByte l c < 0) : c ∉ l := by
  induction l with
  | nil => simp
  | cons b l ih =>
    unfold Lib.indexByte at h
    by_cases hb : (b == c) = true
    · rw [if_pos hb] at h; omega
    · rw [if_neg hb] at h
      have hne : b ≠ c := fun e => hb (by rw [e]; simp)
      by_cases h1 : (Lib.indexByte l c == -1) = true
      · have : Lib.indexByte l c < 0 := by have := eq_of_beq h1; omega
        simp [ih this, Ne.symm hne]
      · rw [if_neg h1] at h
        have : Lib.indexByte l c < 0 := by omega
        simp [ih this, Ne.symm hne]
theorem idx_yes (l : Bs) (c : UInt8) (h : 0 ≤ Lib.indexByte l c) : ∃ n : Nat, Lib.indexByte l c = n ∧ n < l.length ∧ c ∉ l.take n ∧ l = l.take n ++ c :: l.drop (n + 1) := by
  induction l with
  | nil => simp [Lib.indexByte] at h
  | cons b l ih =>
    by_cases hb : (b == c) = true
    · have e : b = c := eq_of_beq hb
      refine ⟨0, by unfold Lib.indexByte; rw [if_pos hb]; rfl, by simp, by simp, by simp [e]⟩
    · unfold Lib.indexByte at h
      rw [if_neg hb] at h
      have hne : b ≠ c := fun e => hb (by rw [e]; simp)
      by_cases h1 : (Lib.indexByte l c == -1) = true
      · rw [if_pos h1] at h; omega
      · rw [if_neg h1] at h
        have h2 : 0 ≤ Lib.indexByte l c := by
          have : Lib.indexByte l c ≠ -1 := fun e => h1 (by rw [e]; rfl)
          omega
        obtain ⟨n, h3, h4, h5, h6⟩ := ih h2
        refine ⟨n + 1, by unfold Lib.indexByte; rw [if_neg hb, if_neg h1, h3]; rfl, by simpa using h4, by simp [h5, Ne.symm hne], ?_⟩
        simp only [List.take_succ_cons, List.drop_succ_cons, List.cons_append]
        rw [← h6]
/-- the token that a quote begins -/
def pQuoted (l : Bs) : Nat × Bs × Nat := match pText (l.drop 1) with | some x => (2, x.1, x.2 + 1) | none => (0, [], 0)
/-- how far the loop has come: 'acc' has been read up to the place 'at' -/
def QInv (l acc : Bs) (k : Nat) : Prop := 1 ≤ k ∧ k ≤ l.length ∧ acc.length ≤ k ∧ pText (l.drop 1) = (pText (l.drop k)).map (fun x => (acc ++ x.1, x.2 + (k - 1)))
theorem QInv.start (l : Bs) (h : 0 < l.length) : QInv l [] 1 := by
  refine ⟨Nat.le_refl _, h, by simp, ?_⟩
  cases pText (l.drop 1) with
  | none => rfl
  | some x => simp
theorem QInv.fail {l acc : Bs} {k : Nat} (h : QInv l acc k) (hn : Lib.indexByte (l.drop k) 34 < 0) : pQuoted l = (0, [], 0) := by
  unfold pQuoted
  rw [h.2.2.2, pText_no _ (idx_no _ _ hn)]
  rfl
theorem QInv.split {l acc : Bs} {k n : Nat} (_h : QInv l acc k) (hi : Lib.indexByte (l.drop k) 34 = (n : Int)) :
    k + n < l.length ∧ pText (l.drop k) = (pText (34 :: l.drop (k + n + 1))).map (fun x => ((l.drop k).take n ++ x.1, x.2 + n)) := by
  obtain ⟨m, h1, h2, h3, h4⟩ := idx_yes (l.drop k) 34 (by omega)
  obtain rfl : m = n := by omega
  rw [List.length_drop] at h2
  refine ⟨by omega, ?_⟩
  have e : ((l.drop k).take m).length = m := by rw [List.length_take, List.length_drop]; omega
  conv => lhs; rw [h4]
  rw [pText_chunk _ _ h3, e, List.drop_drop]
  congr 3
theorem QInv.stop {l acc : Bs} {k n : Nat} (h : QInv l acc k) (hi : Lib.indexByte (l.drop k) 34 = (n : Int)) (hq : atIs l (k + n + 1) 34 = false) :
    pQuoted l = (2, acc ++ (l.drop k).take n, k + n + 1) := by
  obtain ⟨h1, h2⟩ := h.split hi
  have hk := h.1
  unfold pQuoted
  rw [h.2.2.2, h2, pText_end]
  · simp; omega
  · intro r hr
    have h3 : (l.drop (k + n + 1))[0]? = some 34 := by rw [hr]; rfl
    rw [List.getElem?_drop, Nat.add_zero] at h3
    unfold atIs at hq
    rw [h3] at hq
    cases hq
theorem QInv.next {l acc : Bs} {k n : Nat} (h : QInv l acc k) (hi : Lib.indexByte (l.drop k) 34 = (n : Int)) (hq : atIs l (k + n + 1) 34 = true) :
    QInv l (acc ++ (l.drop k).take n ++ [34]) (k + n + 1 + 1) := by
  obtain ⟨h1, h2⟩ := h.split hi
  have hlt := at_lt _ _ _ hq
  have hk := h.1
  have ha := h.2.2.1
  refine ⟨by omega, by omega, by simp; omega, ?_⟩
  have h3 : l.drop (k + n + 1) = 34 :: l.drop (k + n + 1 + 1) := by
    rw [List.drop_eq_getElem_cons hlt]
    congr 1
    unfold atIs at hq
    rw [List.getElem?_eq_getElem hlt] at hq
    have := eq_of_beq hq
    injection this
  rw [h.2.2.2, h2, h3, pText_two]
  cases pText (l.drop (k + n + 1 + 1)) with
  | none => rfl
  | some x =>
    simp only [Option.map_some]
    congr 2
    · simp
    · omega
end Go.Proofs.YtcgdeoldgnjdeaaDoor
