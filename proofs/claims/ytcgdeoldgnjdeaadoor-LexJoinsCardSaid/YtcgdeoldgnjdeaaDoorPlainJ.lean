/-
  Plain law: the text of a right number that isn't below 0 is one number; below 0 it is a sign and a number.
-/
import Derived.Test.YtcgdeoldgnjdeaaDoorLex8
import Derived.Test.YtcgdeoldgnjdeaaDoorPlainH
namespace Go.Proofs.YtcgdeoldgnjdeaaDoor
open Go.RowKit

theorem runP_all (p : UInt8 → Bool) : ∀ (D : Bs), (∀ c ∈ D, p c = true) → runP p D = D.length
  | [], _ => rfl
  | c :: D, h => by
    simp only [runP]
    rw [if_pos (h c (by simp)), runP_all p D (fun d hd => h d (by simp [hd]))]
    rfl
theorem atIs_end (l : Bs) (c : UInt8) : atIs l l.length c = false := by
  unfold atIs
  rw [List.getElem?_eq_none (Nat.le_refl _)]
  rfl
theorem pNumber_whole (A : Bs) (hA : AllDig A) : pNumber A = A.length := by
  have e : pNumA A = A.length := by
    unfold pNumA
    rw [runP_all _ A hA, atIs_end]
    rfl
  unfold pNumber pNumE
  rw [e, if_pos (.inr ⟨atIs_end A 101, atIs_end A 69⟩)]
theorem pNumber_part (A B : Bs) (hA : AllDig A) (hB : AllDig B) (h0 : B ≠ []) : pNumber (A ++ 46 :: B) = (A ++ 46 :: B).length := by
  have hr : runP isDigit (A ++ 46 :: B) = A.length := by
    rw [runP_app _ _ A hA]
    rfl
  have hd : (A ++ 46 :: B).drop (A.length + 1) = B := by
    rw [show A ++ 46 :: B = (A ++ [46]) ++ B by simp, show A.length + 1 = (A ++ [46]).length by simp, List.drop_left]
  have hat : atIs (A ++ 46 :: B) A.length 46 = true := by
    unfold atIs
    simp
  have hpos : 0 < B.length := List.length_pos_iff.2 h0
  have e : pNumA (A ++ 46 :: B) = (A ++ 46 :: B).length := by
    unfold pNumA
    rw [hr, hd, hat, runP_all _ B hB, if_pos (by simpa using hpos)]
    simp
    omega
  unfold pNumber pNumE
  rw [e, if_pos (.inr ⟨atIs_end _ 101, atIs_end _ 69⟩)]
theorem lexFrom_number (l : Bs) (k : Nat) (hn : pNumber l = l.length) (h0 : l ≠ []) (hd : ∀ c r, l = c :: r → c ≠ 32) : lexFrom l k = .ok [⟨1, l, k⟩] := by
  obtain ⟨c, r, rfl⟩ : ∃ c r, l = c :: r := by cases l with | nil => exact absurd rfl h0 | cons c r => exact ⟨c, r, rfl⟩
  have e : pToken (c :: r) = (1, c :: r, (c :: r).length) := by
    unfold pToken
    rw [hn, if_pos (by simp), List.take_length]
  rw [lexFrom_tok _ _ _ (hd c r rfl) (by rw [e]; simp), e]
  simp only
  rw [List.drop_of_length_le (Nat.le_refl _), lexFrom_nil]
  rfl
theorem nText_neg (m e : Int) (h : m < 0) : nText m e = 45 :: nText (-m) e := by
  unfold nText
  have h1 : (-m).natAbs = m.natAbs := by omega
  rw [h1, if_pos h, if_neg (show ¬ -m < 0 by omega)]
  dsimp only
  split
  · rfl
  · split <;> rfl
theorem nText_forms (m e : Int) (hR : pRight m e = true) (h : 0 ≤ m) : ∃ A, AllDig A ∧ A ≠ [] ∧ (nText m e = A ∨ ∃ B, AllDig B ∧ B ≠ [] ∧ nText m e = A ++ 46 :: B) := by
  by_cases z : m = 0
  · have he : e = 0 := by unfold pRight at hR; rw [if_pos z] at hR; simpa using hR
    subst z; subst he
    refine ⟨[48], AllDig.zeros 1, by decide, .inl ?_⟩
    have h1 : nText 0 0 = ([] : Bs) ++ Lib.decDigits 0 ++ [] := rfl
    rw [h1, Lib.decDigits]
    rfl
  · obtain ⟨r1, r2, r3, r4, r5⟩ := pRight_of hR z
    obtain ⟨l0, l1⟩ := dec_len m (by omega) (by omega)
    obtain ⟨hd, hv⟩ := dec_dig m.natAbs
    have hN : nText m e = if 0 ≤ e then (if m < 0 then [45] else []) ++ Lib.decDigits m.natAbs ++ List.replicate e.toNat 48
      else if 0 < ((Lib.decDigits m.natAbs).length : Int) + e then (if m < 0 then [45] else []) ++ (Lib.decDigits m.natAbs).take (((Lib.decDigits m.natAbs).length : Int) + e).toNat ++ [46] ++ (Lib.decDigits m.natAbs).drop (((Lib.decDigits m.natAbs).length : Int) + e).toNat
      else (if m < 0 then [45] else []) ++ [48, 46] ++ List.replicate (-(((Lib.decDigits m.natAbs).length : Int) + e)).toNat 48 ++ Lib.decDigits m.natAbs := rfl
    rw [hN, if_neg (show ¬ m < 0 by omega)]
    clear hN
    generalize Lib.decDigits m.natAbs = t at *
    by_cases he : 0 ≤ e
    · rw [if_pos he]
      exact ⟨_, hd.app (AllDig.zeros _), fun h => by have := congrArg List.length h; rw [List.length_append, List.length_nil] at this; omega, .inl rfl⟩
    · rw [if_neg he]
      by_cases hw : 0 < (t.length : Int) + e
      · rw [if_pos hw]
        refine ⟨t.take ((t.length : Int) + e).toNat, hd.take _, fun h => ?_, .inr ⟨t.drop ((t.length : Int) + e).toNat, hd.drop _, fun h => ?_, by simp⟩⟩
        · have := congrArg List.length h
          rw [List.length_take, List.length_nil] at this
          omega
        · have := congrArg List.length h
          rw [List.length_drop, List.length_nil] at this
          omega
      · rw [if_neg hw]
        refine ⟨[48], AllDig.zeros 1, by decide, .inr ⟨List.replicate (-((t.length : Int) + e)).toNat 48 ++ t, (AllDig.zeros _).app hd, fun h => ?_, by simp⟩⟩
        have := congrArg List.length h
        rw [List.length_append, List.length_nil] at this
        omega
theorem nText_lex (m e : Int) (k : Nat) (hR : pRight m e = true) (h : 0 ≤ m) : lexFrom (nText m e) k = .ok [⟨1, nText m e, k⟩] := by
  have hdig : ∀ c, isDigit c = true → c ≠ 32 := fun c hc he => by rw [he] at hc; exact absurd hc (by decide)
  obtain ⟨A, hA, hA0, hf | ⟨B, hB, hB0, hf⟩⟩ := nText_forms m e hR h
  · rw [hf]
    exact lexFrom_number A k (pNumber_whole A hA) hA0 (fun c r hc => hdig c (hA c (by rw [hc]; simp)))
  · rw [hf]
    refine lexFrom_number _ k (pNumber_part A B hA hB hB0) (by simp) (fun c r hc => ?_)
    cases A with
    | nil => exact absurd rfl hA0
    | cons d A =>
      rw [List.cons_append] at hc
      injection hc with h1 h2
      rw [← h1]
      exact hdig d (hA d (by simp))
theorem right_neg (m e : Int) (hR : pRight m e = true) : pRight (-m) e = true := by
  unfold pRight at hR ⊢
  have h1 : (-m).natAbs = m.natAbs := by omega
  by_cases z : m = 0
  · rw [if_pos z] at hR
    rw [if_pos (by omega)]
    exact hR
  · rw [if_neg z] at hR
    rw [if_neg (by omega), h1]
    exact hR
theorem pToken_minus (l : Bs) : pToken (45 :: l) = (5, [45], 1) := by
  unfold pToken
  rw [pNumber_none 45 l rfl (by decide), if_neg (by omega)]
  simp only [atIs_cons]
  have h1 : pFaultB (45 :: l) = [] := by
    unfold pFaultB pFault
    rw [atIs_cons]
    rfl
  have h2 : pSign (45 :: l) = 1 := by
    unfold pSign Lib.hasPrefix
    rfl
  rw [h1, h2]
  rfl
theorem nText_lexes (m e : Int) (hR : pRight m e = true) : pLex (nText m e) = if m < 0 then .ok [⟨5, [45], 0⟩, ⟨1, nText (-m) e, 1⟩] else .ok [⟨1, nText m e, 0⟩] := by
  unfold pLex
  by_cases h : m < 0
  · rw [if_pos h, nText_neg m e h, lexFrom_tok _ _ _ (by decide) (by rw [pToken_minus]; decide), pToken_minus]
    simp only [List.drop_succ_cons, List.drop_zero, Nat.zero_add]
    rw [nText_lex (-m) e 1 (right_neg m e hR) (by omega)]
    rfl
  · rw [if_neg h]
    exact nText_lex m e 0 hR (by omega)
end Go.Proofs.YtcgdeoldgnjdeaaDoor
