/-
  Plain law: what is a mark, by the document's way.
-/
import Derived.Test.YtcgdeoldgnjdeaaDoorPlainN
namespace Go.Proofs.YtcgdeoldgnjdeaaDoor
open Go.RowKit

def rMarkEnd (l : Bs) (k : Nat) : Bool := decide (1 ≤ runP isDigit (l.drop k)) && decide (runP isDigit (l.drop k) ≤ 7) && !atIs l k 48 && decide (k + runP isDigit (l.drop k) = l.length)
/-- where the letters begin -/
def rAt (l : Bs) : Nat := if atIs l 0 36 then 1 else 0
def rMark1 (l : Bs) (a n : Nat) : Bool :=
  if 3 < n then false
  else if 0 < n ∧ a + n = l.length then atIs l 0 36
  else if 0 < n ∧ atIs l (a + n) 36 = true then rMarkEnd l (a + n + 1)
  else if n = 0 ∧ atIs l 0 36 = false then false
  else rMarkEnd l (a + n)
def rMark (l : Bs) : Bool := rMark1 l (rAt l) (runP isLetter (l.drop (rAt l)))
theorem hasPrefix_at (l : Bs) (c : UInt8) : Lib.hasPrefix l [c] = atIs l 0 c := by
  cases l with
  | nil => rfl
  | cons d l =>
    unfold Lib.hasPrefix atIs
    simp only [List.isPrefixOf, Bool.and_true, List.getElem?_cons_zero]
    rw [Bool.eq_iff_iff, beq_iff_eq, beq_iff_eq]
    constructor
    · intro h; rw [h]
    · intro h; injection h with h; exact h.symm
theorem trimPrefix_at (l : Bs) (c : UInt8) : Lib.trimPrefix l [c] = if atIs l 0 c then l.drop 1 else l := by
  unfold Lib.trimPrefix
  rw [hasPrefix_at]
  rfl
theorem rMarkEnd_eq (l : Bs) (k : Nat) (hk : k ≤ l.length) : rMarkEnd l k = pTail (l.drop k) := by
  unfold rMarkEnd pTail
  have e : atIs (l.drop k) 0 48 = atIs l k 48 := by unfold atIs; rw [List.getElem?_drop, Nat.add_zero]
  have hle := runP_le isDigit (l.drop k)
  rw [List.length_drop] at hle
  rw [e, List.length_drop, Bool.eq_iff_iff]
  simp only [Bool.and_eq_true, decide_eq_true_eq]
  constructor
  · rintro ⟨⟨⟨h1, h2⟩, h3⟩, h4⟩; exact ⟨⟨⟨by omega, h1⟩, h2⟩, h3⟩
  · rintro ⟨⟨⟨h1, h2⟩, h3⟩, h4⟩; exact ⟨⟨⟨h2, h3⟩, h4⟩, by omega⟩
theorem atIs_drop (l : Bs) (k j : Nat) (c : UInt8) : atIs (l.drop k) j c = atIs l (k + j) c := by unfold atIs; rw [List.getElem?_drop]
theorem rMark_eq (l : Bs) : rMark l = pMark l := by
  have hA : rAt l ≤ l.length := by
    unfold rAt
    split
    · rename_i h; exact at_lt _ _ _ h
    · exact Nat.zero_le _
  have ht : Lib.trimPrefix l [36] = l.drop (rAt l) := by
    rw [trimPrefix_at]
    unfold rAt
    cases atIs l 0 36 <;> rfl
  unfold rMark pMark
  rw [ht, hasPrefix_at]
  have hle := runP_le isLetter (l.drop (rAt l))
  unfold rMark1 pMark1
  rw [List.length_drop] at hle
  generalize rAt l = a at *
  generalize runP isLetter (l.drop a) = n at *
  by_cases h3 : 3 < n
  · rw [if_pos h3, if_pos h3]
  · rw [if_neg h3, if_neg h3, List.drop_drop]
    by_cases he : a + n = l.length
    · have hd : l.drop (a + n) = [] := List.drop_of_length_le (by omega)
      have hf : rMarkEnd l (a + n) = false := by unfold rMarkEnd; rw [hd]; rfl
      by_cases h0 : 0 < n
      · refine Eq.trans (b := atIs l 0 36) ?_ ?_
        · rw [if_pos ⟨h0, he⟩]
        · rw [hd, if_pos (by rfl), decide_eq_true h0, Bool.and_true]
      · refine Eq.trans (b := false) ?_ ?_
        · rw [if_neg (fun h => h0 h.1), if_neg (fun h => h0 h.1), hf]
          split <;> rfl
        · rw [hd, if_pos (by rfl), decide_eq_false h0, Bool.and_false]
    · have hd : (l.drop (a + n)).isEmpty = false := by
        cases hx : l.drop (a + n) with
        | nil =>
          have := congrArg List.length hx
          rw [List.length_drop] at this
          simp at this
          omega
        | cons c t => rfl
      have hE := rMarkEnd_eq l (a + n) (by omega)
      by_cases h0 : 0 < n
      · cases h36 : atIs l (a + n) 36
        · refine Eq.trans (b := rMarkEnd l (a + n)) ?_ ?_
          · rw [if_neg (fun h => he h.2), if_neg (fun h => by cases h.2), if_neg (fun h => by omega)]
          · rw [hd, if_neg (by decide), if_pos h0, trimPrefix_at, atIs_drop, Nat.add_zero (a + n), h36, if_neg (by decide)]
            exact hE
        · refine Eq.trans (b := rMarkEnd l (a + n + 1)) ?_ ?_
          · rw [if_neg (fun h => he h.2), if_pos ⟨h0, rfl⟩]
          · rw [hd, if_neg (by decide), if_pos h0, trimPrefix_at, atIs_drop, Nat.add_zero (a + n), h36, if_pos rfl, List.drop_drop]
            exact rMarkEnd_eq l _ (at_lt _ _ _ h36)
      · cases h36 : atIs l 0 36
        · refine Eq.trans (b := false) ?_ ?_
          · rw [if_neg (fun h => h0 h.1), if_neg (fun h => h0 h.1), if_pos ⟨by omega, rfl⟩]
          · rw [hd, if_neg (by decide), if_neg h0, if_neg (by decide)]
        · refine Eq.trans (b := rMarkEnd l (a + n)) ?_ ?_
          · rw [if_neg (fun h => h0 h.1), if_neg (fun h => h0 h.1), if_neg (fun h => by cases h.2)]
          · rw [hd, if_neg (by decide), if_neg h0, if_pos rfl]
            exact hE
end Go.Proofs.YtcgdeoldgnjdeaaDoor
