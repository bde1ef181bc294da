/-
  A number's text in parts; what is read from it (merged: PlainG, PlainH).
-/
import Derived.Test.YtpdaloohgfnbhaaGreatDoorNum9
import Derived.Test.YtpdaloohgfnbhaaGreatDoorPl1
import Derived.Test.YtpdaloohgfnbhaaGreatDoorPlainW
import Derived.Test.YtpdaloohgfnbhaaGreatDoorNum10
namespace Go.Proofs.YtpdaloohgfnbhaaGreatDoor
open Go.RowKit

theorem rhe_exact (n k : Nat) : rhe (n * 10 ^ k) k = n := by
  have hp : 0 < 10 ^ k := Nat.pow_pos (by decide)
  unfold rhe
  rw [Nat.mul_mod_left, Nat.mul_div_cancel _ hp, if_neg (by omega)]
theorem pTrim_mul (n : Nat) (h : n % 10 ≠ 0) : ∀ (j : Nat) (e : Int), pTrim (n * 10 ^ j) e = (n, e + j)
  | 0, e => by rw [Nat.pow_zero, Nat.mul_one, pTrim_stop n e h]; simp
  | j + 1, e => by
    have hn : 0 < n := by omega
    have hp : 0 < n * 10 ^ j := Nat.mul_pos hn (Nat.pow_pos (by decide))
    have he : n * 10 ^ (j + 1) = (n * 10 ^ j) * 10 := by rw [Nat.pow_succ, Nat.mul_assoc]
    rw [he, pTrim_step _ _ (by omega) (Nat.mul_mod_left _ _), Nat.mul_div_cancel _ (by decide), pTrim_mul n h j]
    congr 1
    omega
theorem dlen_pow (n : Nat) (h : 0 < n) (j : Nat) : dlen (n * 10 ^ j) = dlen n + j := by
  have h1 := dlen_lt n
  have h2 := dlen_ge n h
  have h3 := dlen_pos n h
  refine dlen_eq (by omega) ?_ ?_
  · rw [show dlen n + j - 1 = (dlen n - 1) + j by omega, Nat.pow_add]
    exact Nat.mul_le_mul_right _ h2
  · rw [Nat.pow_add]
    exact Nat.mul_lt_mul_of_pos_right h1 (Nat.pow_pos (by decide))
theorem pNear_text (neg : Bool) (n j : Nat) (e : Int) (h : n % 10 ≠ 0) (h15 : dlen n ≤ 15) (he : -40 ≤ e) (hT : (dlen n : Int) + (e + j) ≤ 40) :
    pNear neg (n * 10 ^ j) e = some (if neg then -(n : Int) else n, e + j) := by
  have hn : 0 < n := by omega
  obtain ⟨k, hk, h1⟩ : ∃ k, k ≤ j ∧ near1 (n * 10 ^ j) e = (n * 10 ^ (j - k), e + k) := by
    unfold near1
    rw [dlen_pow n hn]
    by_cases hb : 15 < dlen n + j
    · refine ⟨dlen n + j - 15, by omega, ?_⟩
      rw [if_pos hb]
      have : n * 10 ^ j = n * 10 ^ (j - (dlen n + j - 15)) * 10 ^ (dlen n + j - 15) := by
        rw [Nat.mul_assoc, ← Nat.pow_add]
        congr 2
        omega
      rw [this, rhe_exact]
    · refine ⟨0, Nat.zero_le _, ?_⟩
      rw [if_neg hb]
      simp
  have h2 : near2 (n * 10 ^ (j - k)) (e + k) = (n * 10 ^ (j - k), e + k) := by
    unfold near2
    rw [if_neg (by omega)]
  unfold pNear
  rw [h1, h2, pTrim_mul n h]
  unfold nearEnd
  rw [if_neg (by show ¬ n = 0; omega), if_neg (by show ¬ (40 : Int) < (dlen n : Int) + (e + k + ((j - k : Nat) : Int)); omega)]
  congr 2
  show e + k + ((j - k : Nat) : Int) = e + j
  omega
theorem runP_app (p : UInt8 → Bool) (r : Bs) : ∀ (D : Bs), (∀ c ∈ D, p c = true) → runP p (D ++ r) = D.length + runP p r
  | [], _ => by simp
  | c :: D, h => by
    have h1 := h c (by simp)
    have ih := runP_app p r D (fun x hx => h x (by simp [hx]))
    rw [List.cons_append, List.length_cons]
    simp only [runP, h1, if_true, ih]
    omega
theorem runP_none (p : UInt8 → Bool) : runP p [] = 0 := rfl
def AllDig (D : Bs) : Prop := ∀ c ∈ D, isDigit c = true
def sgB (neg : Bool) : Bs := if neg then [45] else []
theorem AllDig.app {A B : Bs} (h : AllDig A) (k : AllDig B) : AllDig (A ++ B) := fun c hc => (List.mem_append.1 hc).elim (h c) (k c)
theorem AllDig.zeros (n : Nat) : AllDig (List.replicate n 48) := fun c hc => by rw [(List.mem_replicate.1 hc).2]; decide
theorem AllDig.take {A : Bs} (h : AllDig A) (n : Nat) : AllDig (A.take n) := fun c hc => h c (List.mem_of_mem_take hc)
theorem AllDig.drop {A : Bs} (h : AllDig A) (n : Nat) : AllDig (A.drop n) := fun c hc => h c (List.mem_of_mem_drop hc)
theorem dec_dig (u : Nat) : AllDig (Lib.decDigits u) ∧ natOf (digL (Lib.decDigits u)) = u := by
  induction u using Nat.strongRecOn with
  | _ u ih =>
    have hd : ∀ d, d < 10 → isDigit (UInt8.ofNat (48 + d)) = true ∧ (UInt8.ofNat (48 + d)).toNat - 48 = d := by decide
    rw [Lib.decDigits]
    by_cases h : u < 10
    · rw [dif_pos h]
      refine ⟨fun c hc => ?_, ?_⟩
      · rw [List.mem_singleton.1 hc]; exact (hd u h).1
      · show natOf [(UInt8.ofNat (48 + u)).toNat - 48] = u
        rw [(hd u h).2]
        simp [natOf]
    · rw [dif_neg h]
      obtain ⟨i1, i2⟩ := ih (u / 10) (by omega)
      have hm := hd (u % 10) (by omega)
      refine ⟨i1.app (fun c hc => ?_), ?_⟩
      · rw [List.mem_singleton.1 hc]; exact hm.1
      · rw [digL_append]
        show natOf (digL (Lib.decDigits (u / 10)) ++ [(UInt8.ofNat (48 + u % 10)).toNat - 48]) = u
        rw [natOf_snoc, i2, hm.2]
        omega
theorem pNumT_whole (neg : Bool) (A : Bs) (hA : AllDig A) (h0 : A ≠ []) : pNumT (sgB neg ++ A) = some (neg, digL A, 0, false, []) := by
  obtain ⟨c, t, rfl⟩ : ∃ c t, A = c :: t := by cases A with | nil => exact absurd rfl h0 | cons c t => exact ⟨c, t, rfl⟩
  have hc := hA c (by simp)
  have h45 : (c == 45) = false := by rw [beq_eq_false_iff_ne]; intro h; subst h; exact absurd hc (by decide)
  have hr : runP isDigit (c :: t) = (c :: t).length := by
    have := runP_app isDigit [] (c :: t) hA
    rw [List.append_nil] at this
    rw [this]; rfl
  cases neg
  · have ha : atIs (sgB false ++ c :: t) 0 45 = false := by simp [sgB, atIs, h45]
    unfold pNumT
    simp only [ha]
    simp [sgB, hr, atIs, pPowT]
  · have ha : atIs (sgB true ++ c :: t) 0 45 = true := by simp [sgB, atIs]
    unfold pNumT
    simp only [ha]
    simp [sgB, hr, atIs, pPowT, Nat.add_comm 1]
theorem pNumT_part (neg : Bool) (A B : Bs) (hA : AllDig A) (hB : AllDig B) (h0 : B ≠ []) : pNumT (sgB neg ++ (A ++ 46 :: B)) = some (neg, digL A ++ digL B, B.length, false, []) := by
  have hr : runP isDigit (A ++ 46 :: B) = A.length := by
    rw [runP_app isDigit (46 :: B) A hA]
    have : runP isDigit (46 :: B) = 0 := by simp [runP, isDigit]
    omega
  have hrB : runP isDigit B = B.length := by
    have := runP_app isDigit [] B hB
    rw [List.append_nil] at this
    rw [this]; rfl
  have h0' : B.length ≠ 0 := fun h => h0 (List.eq_nil_of_length_eq_zero h)
  have d1 : (A ++ 46 :: B).drop A.length = 46 :: B := by simp
  have d2 : (A ++ 46 :: B).drop (A.length + 1) = B := by rw [← List.drop_drop, d1]; rfl
  have d3 : (A ++ 46 :: B).drop (A.length + 1 + B.length) = [] := by rw [← List.drop_drop, d2]; simp
  have d4 : (A ++ 46 :: B)[A.length]? = some 46 := by simp
  have d5 : (A ++ 46 :: B).take A.length = A := by simp
  have hz : ((A ++ 46 :: B)[0]? == some 45) = false := by
    cases A with
    | nil => rfl
    | cons c t =>
      have hc := hA c (by simp)
      show (some c == some 45) = false
      rw [beq_eq_false_iff_ne]
      intro h
      injection h with h
      subst h
      exact absurd hc (by decide)
  cases neg
  · have ha : atIs (sgB false ++ (A ++ 46 :: B)) 0 45 = false := hz
    unfold pNumT
    simp only [ha]
    simp only [sgB, Bool.false_eq_true, if_false, List.nil_append, List.drop_zero, hr, Nat.zero_add, atIs, d4, d2, hrB, d3, d5, pPowT]
    simp [h0']
  · have ha : atIs (sgB true ++ (A ++ 46 :: B)) 0 45 = true := rfl
    unfold pNumT
    simp only [ha]
    have e1 : (sgB true ++ (A ++ 46 :: B)).drop 1 = A ++ 46 :: B := rfl
    have e2 : ∀ k, (sgB true ++ (A ++ 46 :: B)).drop (1 + k) = (A ++ 46 :: B).drop k := fun k => by rw [← List.drop_drop, e1]
    have e3 : (sgB true ++ (A ++ 46 :: B))[1 + A.length]? = some 46 := by rw [Nat.add_comm]; exact d4
    simp only [if_true, e1, hr, atIs, e3, Nat.add_assoc 1, e2, d2, hrB, d3, d5, pPowT]
    simp [h0']
theorem pParse_parts (l : Bs) (neg : Bool) (L : List Nat) (b : Nat) (hl : l.length ≤ 255) (h : pNumT l = some (neg, L, b, false, [])) : pParse l = pNear neg (natOf L) (-(b : Int)) := by
  unfold pParse
  rw [if_neg (by omega), all_text, h]
  show pNear neg (natOf L) ((0 : Int) - (b : Int)) = _
  rw [Int.zero_sub]
theorem dec_len (m : Int) (h1 : -9223372036854775808 ≤ m) (h2 : m ≤ 9223372036854775807) : 1 ≤ (Lib.decDigits m.natAbs).length ∧ (Lib.decDigits m.natAbs).length ≤ 20 := by
  refine ⟨by rw [Lib.decDigits_length, Lib.nDigits]; split <;> omega, ?_⟩
  rw [Lib.decDigits_length]
  by_cases z : m.natAbs = 0
  · rw [z, Lib.nDigits_small (by omega)]; omega
  · have := Lib.numDigits_eq m.natAbs (by omega) (by omega); split at this <;> omega
/-- the text of a right number is read as that number -/
theorem parse_text (m e : Int) (hR : pRight m e = true) : pParse (nText m e) = some (m, e) := by
  by_cases z : m = 0
  · have he : e = 0 := by unfold pRight at hR; rw [if_pos z] at hR; simpa using hR
    subst z; subst he
    have : nText 0 0 = sgB false ++ [48] := by
      have h1 : nText 0 0 = ([] : Bs) ++ Lib.decDigits 0 ++ [] := rfl
      rw [h1, Lib.decDigits]
      rfl
    rw [this, pParse_parts _ false [0] 0 (by decide) (pNumT_whole false [48] (AllDig.zeros 1) (by decide))]
    exact pNear_zero false 0
  · obtain ⟨r1, r2, r3, r4, r5⟩ := pRight_of hR z
    have hn0 : 0 < m.natAbs := by omega
    obtain ⟨l0, l1⟩ := dec_len m (by omega) (by omega)
    obtain ⟨hd, hv⟩ := dec_dig m.natAbs
    have hdl : dlen m.natAbs = digs m.natAbs := (dlen_digs _ hn0 (by omega)).symm
    have hs : (if m < 0 then [45] else [] : Bs) = sgB (decide (m < 0)) := by
      unfold sgB
      by_cases hm : m < 0
      · rw [if_pos hm, decide_eq_true hm]; rfl
      · rw [if_neg hm, decide_eq_false hm]; rfl
    have hsl : (sgB (decide (m < 0))).length ≤ 1 := by unfold sgB; split <;> decide
    have hm : (if decide (m < 0) = true then -((m.natAbs : Nat) : Int) else (m.natAbs : Int)) = m := by
      by_cases hm : m < 0
      · rw [decide_eq_true hm, if_pos rfl]; omega
      · rw [decide_eq_false hm, if_neg (by decide)]; omega
    have h15 : dlen m.natAbs ≤ 15 := dlen_le (by omega)
    have hN : nText m e = if 0 ≤ e then (if m < 0 then [45] else []) ++ Lib.decDigits m.natAbs ++ List.replicate e.toNat 48
      else if 0 < ((Lib.decDigits m.natAbs).length : Int) + e then (if m < 0 then [45] else []) ++ (Lib.decDigits m.natAbs).take (((Lib.decDigits m.natAbs).length : Int) + e).toNat ++ [46] ++ (Lib.decDigits m.natAbs).drop (((Lib.decDigits m.natAbs).length : Int) + e).toNat
      else (if m < 0 then [45] else []) ++ [48, 46] ++ List.replicate (-(((Lib.decDigits m.natAbs).length : Int) + e)).toNat 48 ++ Lib.decDigits m.natAbs := rfl
    rw [hN, hs]
    clear hN hs
    generalize Lib.decDigits m.natAbs = t at *
    by_cases he : 0 ≤ e
    · obtain ⟨k, rfl⟩ : ∃ k : Nat, e = k := ⟨e.toNat, by omega⟩
      rw [if_pos he, List.append_assoc]
      have hq := pParse_parts (sgB (decide (m < 0)) ++ (t ++ List.replicate (k : Int).toNat 48)) (decide (m < 0)) (digL (t ++ List.replicate k 48)) 0 (by simp; omega) (pNumT_whole _ _ (hd.app (AllDig.zeros _)) (fun h => by have := congrArg List.length h; rw [List.length_append, List.length_nil] at this; omega))
      rw [hq, digL_append, natOf_append, hv]
      have hz : digL (List.replicate k 48) = List.replicate k 0 := by simp [digL]
      rw [hz, natOf_zeros, List.length_replicate, Nat.add_zero]
      have := pNear_text (decide (m < 0)) m.natAbs k 0 (by omega) h15 (by decide) (by omega)
      rw [hm, Int.zero_add] at this
      exact this
    · rw [if_neg he]
      by_cases hw : 0 < (t.length : Int) + e
      · obtain ⟨n, hn⟩ : ∃ n : Nat, (t.length : Int) + e = n := ⟨((t.length : Int) + e).toNat, by omega⟩
        rw [if_pos hw, hn]
        have ha : sgB (decide (m < 0)) ++ t.take (n : Int).toNat ++ [46] ++ t.drop (n : Int).toNat = sgB (decide (m < 0)) ++ (t.take n ++ 46 :: t.drop n) := by simp
        rw [ha]
        have hq := pParse_parts (sgB (decide (m < 0)) ++ (t.take n ++ 46 :: t.drop n)) _ _ _ (by simp; omega) (pNumT_part (decide (m < 0)) (t.take n) (t.drop n) (hd.take n) (hd.drop n) (fun h => by have := congrArg List.length h; simp at this; omega))
        rw [hq, ← digL_append, List.take_append_drop, hv]
        have := pNear_text (decide (m < 0)) m.natAbs 0 e (by omega) h15 (by omega) (by omega)
        rw [hm, Nat.pow_zero, Nat.mul_one] at this
        rw [show (-((t.drop n).length : Int)) = e by rw [List.length_drop]; omega, this]
        simp
      · obtain ⟨k, hk⟩ : ∃ k : Nat, (t.length : Int) + e = -(k : Int) := ⟨(-((t.length : Int) + e)).toNat, by omega⟩
        rw [if_neg hw, hk, Int.neg_neg]
        have ha : sgB (decide (m < 0)) ++ [48, 46] ++ List.replicate (k : Int).toNat 48 ++ t = sgB (decide (m < 0)) ++ ([48] ++ 46 :: (List.replicate k 48 ++ t)) := by simp
        rw [ha]
        have hq := pParse_parts (sgB (decide (m < 0)) ++ ([48] ++ 46 :: (List.replicate k 48 ++ t))) _ _ _ (by simp; omega) (pNumT_part (decide (m < 0)) [48] (List.replicate k 48 ++ t) (AllDig.zeros 1) ((AllDig.zeros k).app hd) (fun h => by have := congrArg List.length h; rw [List.length_append, List.length_nil] at this; omega))
        have hz : digL [48] ++ digL (List.replicate k 48 ++ t) = List.replicate (k + 1) 0 ++ digL t := by
          rw [digL_append]
          simp [digL, List.replicate_succ]
        rw [hq, hz, natOf_append, natOf_zeros, Nat.zero_mul, Nat.zero_add, hv]
        have := pNear_text (decide (m < 0)) m.natAbs 0 e (by omega) h15 (by omega) (by omega)
        rw [hm, Nat.pow_zero, Nat.mul_one] at this
        rw [show (-((List.replicate k (48 : UInt8) ++ t).length : Int)) = e by rw [List.length_append, List.length_replicate]; omega, this]
        simp
end Go.Proofs.YtpdaloohgfnbhaaGreatDoor
