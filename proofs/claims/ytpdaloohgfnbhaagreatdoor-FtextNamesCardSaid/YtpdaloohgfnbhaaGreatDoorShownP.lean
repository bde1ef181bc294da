/-
  What a value is shown as is read as that value (plain).
-/
import Derived.Test.YtpdaloohgfnbhaaGreatDoorVal12
import Derived.Test.YtpdaloohgfnbhaaGreatDoorPlainH
namespace Go.Proofs.YtpdaloohgfnbhaaGreatDoor
open Go.RowKit

theorem nText_ne (m e : Int) (hR : pRight m e = true) : nText m e ≠ [] := by
  intro h
  have := parse_text m e hR
  rw [h] at this
  exact absurd this (by show ¬ (none : Option (Int × Int)) = _; intro h; cases h)
theorem read_fault (f : Int) (h1 : 1 ≤ f) (h9 : f ≤ 9) : vRead (pFaultText f) = vBad f ∧ (pFaultNo (pFaultText f) : Int) = f ∧ pFaultText f ≠ [] ∧ (pFaultText f).length ≤ 20 := by
  have h : f = 1 ∨ f = 2 ∨ f = 3 ∨ f = 4 ∨ f = 5 ∨ f = 6 ∨ f = 7 ∨ f = 8 ∨ f = 9 := by omega
  rcases h with rfl | rfl | rfl | rfl | rfl | rfl | rfl | rfl | rfl
  all_goals exact ⟨by rfl, by rfl, by decide, by decide⟩
theorem read_yes : vRead yesB = vTruth true := by rfl
theorem read_no : vRead noB = vTruth false := by rfl
theorem kinds_right' {v : Val} (h : vRight v = true) : v.kind = 0 ∨ v.kind = 1 ∨ v.kind = 2 ∨ v.kind = 3 ∨ v.kind = 4 := by
  by_cases h0 : v.kind = 0
  · exact .inl h0
  by_cases h1 : v.kind = 1
  · exact .inr (.inl h1)
  by_cases h2 : v.kind = 2
  · exact .inr (.inr (.inl h2))
  by_cases h3 : v.kind = 3
  · exact .inr (.inr (.inr (.inl h3)))
  by_cases h4 : v.kind = 4
  · exact .inr (.inr (.inr (.inr h4)))
  rw [vRight_other v h0 h1 h2 h3 h4] at h
  cases h
/-- what a value that is no text, and isn't blank, is shown as is read as that value -/
theorem read_show (v : Val) (hR : vRight v = true) (h0 : v.kind ≠ 0) (h2 : v.kind ≠ 2) : vRead (vShow v) = v := by
  rcases kinds_right' hR with h | h | h | h | h
  · exact absurd h h0
  · have k := vRight_num v h
    rw [hR] at k
    obtain ⟨k1, k2⟩ := Bool.and_eq_true_iff.1 k.symm
    have hs : vShow v = nText v.mant v.exp := by
      unfold vShow vToText
      rw [if_neg (by omega), if_pos h]
    rw [hs]
    unfold vRead
    rw [if_neg (nText_ne _ _ k1), parse_text _ _ k1]
    exact ((vSame_iff _ _).1 k2).symm
  · exact absurd h h2
  · have k := vRight_truth v h
    rw [hR] at k
    have hv := (vSame_iff _ _).1 k.symm
    have hs : vShow v = if v.truth then yesB else noB := by
      unfold vShow vToText
      rw [if_neg (by omega), if_neg (by omega), if_neg (by omega), if_pos h]
    rw [hs]
    cases ht : v.truth
    · rw [ht] at hv
      rw [hv]; exact read_no
    · rw [ht] at hv
      rw [hv]; exact read_yes
  · have k := vRight_fault v h
    rw [hR] at k
    have hv := (vSame_iff _ _).1 k.symm
    have hs : vShow v = pFaultText v.fault := by
      unfold vShow
      rw [if_pos h]
    have hf : 1 ≤ v.fault ∧ v.fault ≤ 9 := by
      have := congrArg Val.fault hv
      unfold vBad at this
      dsimp only at this
      split at this <;> omega
    rw [hs, (read_fault _ hf.1 hf.2).1]
    exact hv.symm
end Go.Proofs.YtpdaloohgfnbhaaGreatDoor
