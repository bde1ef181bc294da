/-
  What a format of k places shows is read again as the rounded number.
-/
import Derived.Test.YteccjdclkcipbaaDoorPlMa
namespace Go.Proofs.YteccjdclkcipbaaDoor
open Go.RowKit

theorem dig_dot {c : UInt8} (h : isDigit c = true) : c ≠ 46 := fun e => by subst e; exact absurd h (by decide)
theorem index_app : ∀ A B : Bs, AllDig A → Lib.index (A ++ 46 :: B) [46] = (A.length : Int)
  | [], B, _ => by
    show Lib.index (46 :: B) [46] = 0
    rw [index_dot, if_pos rfl]
  | c :: t, B, h => by
    have ih := index_app t B (fun x hx => h x (List.mem_cons_of_mem _ hx))
    show Lib.index (c :: (t ++ 46 :: B)) [46] = _
    rw [index_dot, if_neg (dig_dot (h c (List.mem_cons_self ..))), ih, if_neg (by omega), List.length_cons]
    omega
theorem index_dig : ∀ A : Bs, AllDig A → Lib.index A [46] = -1
  | [], _ => rfl
  | c :: t, h => by rw [index_dot, if_neg (dig_dot (h c (List.mem_cons_self ..))), index_dig t (fun x hx => h x (List.mem_cons_of_mem _ hx)), if_pos rfl]
theorem cut_app (A B : Bs) (hA : AllDig A) : Lib.cut (A ++ 46 :: B) [46] = (A, B, true) := by
  unfold Lib.cut
  rw [index_app A B hA, if_pos (by omega)]
  have h1 : (A.length : Int).toNat = A.length := by omega
  rw [h1, List.take_left']
  · congr 1
    congr 1
    rw [← List.drop_drop, List.drop_left']
    · rfl
    · rfl
  · rfl
theorem cut_digs (A : Bs) (hA : AllDig A) : Lib.cut A [46] = (A, [], false) := by
  unfold Lib.cut
  rw [index_dig A hA]
  rfl
theorem AllDig.nil : AllDig [] := fun _ hc => by simp at hc
theorem text_parts (M E : Int) (h0 : 0 ≤ M) : ∃ A B : Bs, AllDig A ∧ AllDig B ∧ A ≠ [] ∧ (Lib.cut (nText M E) [46]).1 = A ∧ (Lib.cut (nText M E) [46]).2.1 = B ∧ natOf (digL (A ++ B)) = M.natAbs * 10 ^ E.toNat ∧ B.length = (-E).toNat ∧ A.length ≤ (Lib.decDigits M.natAbs).length + E.toNat := by
  obtain ⟨hd, hv⟩ := dec_dig M.natAbs
  have hl : 1 ≤ (Lib.decDigits M.natAbs).length := by rw [Lib.decDigits_length, Lib.nDigits]; split <;> omega
  have hs : (if M < 0 then [45] else [] : Bs) = [] := if_neg (by omega)
  have hz : ∀ k, digL (List.replicate k 48) = List.replicate k 0 := fun k => by simp [digL]
  unfold nText
  dsimp only
  rw [hs]
  generalize Lib.decDigits M.natAbs = D at *
  split
  · next h1 =>
    have ha : AllDig (D ++ List.replicate E.toNat 48) := hd.app (AllDig.zeros _)
    refine ⟨D ++ List.replicate E.toNat 48, [], ha, AllDig.nil, ?_, ?_, ?_, ?_, ?_, ?_⟩
    · intro h; have := congrArg List.length h; rw [List.length_append, List.length_nil] at this; omega
    · rw [List.nil_append, cut_digs _ ha]
    · rw [List.nil_append, cut_digs _ ha]
    · rw [List.append_nil, digL_append, natOf_append, hv, hz, natOf_zeros, List.length_replicate, Nat.add_zero]
    · rw [List.length_nil]; omega
    · rw [List.length_append, List.length_replicate]; exact Nat.le_refl _
  · next h1 =>
    have hE : E.toNat = 0 := by omega
    split
    · next h2 =>
      have hsp : [] ++ D.take ((D.length : Int) + E).toNat ++ [46] ++ D.drop ((D.length : Int) + E).toNat = D.take ((D.length : Int) + E).toNat ++ 46 :: D.drop ((D.length : Int) + E).toNat := by simp
      rw [hsp, cut_app _ _ (hd.take _)]
      refine ⟨_, _, hd.take _, hd.drop _, ?_, rfl, rfl, ?_, ?_, ?_⟩
      · intro h; have := congrArg List.length h; rw [List.length_take, List.length_nil] at this; omega
      · rw [List.take_append_drop, hv, hE, Nat.pow_zero, Nat.mul_one]
      · rw [List.length_drop]; omega
      · rw [List.length_take]; omega
    · next h2 =>
      have hsp : [] ++ [48, 46] ++ List.replicate (-((D.length : Int) + E)).toNat 48 ++ D = [48] ++ 46 :: (List.replicate (-((D.length : Int) + E)).toNat 48 ++ D) := by simp
      rw [hsp, cut_app [48] _ (AllDig.zeros 1)]
      refine ⟨[48], _, AllDig.zeros 1, (AllDig.zeros _).app hd, by decide, rfl, rfl, ?_, ?_, ?_⟩
      · rw [digL_append, digL_append, natOf_append, natOf_append, hz, natOf_zeros, hv, hE, Nat.pow_zero, Nat.mul_one]
        simp [digL, natOf_cons, natOf_nil]
      · rw [List.length_append, List.length_replicate]; omega
      · rw [List.length_cons, List.length_nil]; omega
def partP (k : Nat) : MP := ⟨4, [], 1, false, true, k, k⟩
def secP (k : Nat) : MS := ⟨[partP k], 0, true⟩
theorem parse_P : ∀ k : Nat, k < 31 → mParse (48 :: 46 :: List.replicate k 48) = .inl [secP k]
  | 0, _ => by rfl
  | 1, _ => by rfl
  | 2, _ => by rfl
  | 3, _ => by rfl
  | 4, _ => by rfl
  | 5, _ => by rfl
  | 6, _ => by rfl
  | 7, _ => by rfl
  | 8, _ => by rfl
  | 9, _ => by rfl
  | 10, _ => by rfl
  | 11, _ => by rfl
  | 12, _ => by rfl
  | 13, _ => by rfl
  | 14, _ => by rfl
  | 15, _ => by rfl
  | 16, _ => by rfl
  | 17, _ => by rfl
  | 18, _ => by rfl
  | 19, _ => by rfl
  | 20, _ => by rfl
  | 21, _ => by rfl
  | 22, _ => by rfl
  | 23, _ => by rfl
  | 24, _ => by rfl
  | 25, _ => by rfl
  | 26, _ => by rfl
  | 27, _ => by rfl
  | 28, _ => by rfl
  | 29, _ => by rfl
  | 30, _ => by rfl
  | k + 31, h => absurd h (by omega)
theorem placesP (k : Nat) (m e : Int) (h : 0 ≤ m) : ∃ A B : Bs, AllDig A ∧ AllDig B ∧ A ≠ [] ∧ natOf (digL (A ++ B)) = (nRound m e k).1.natAbs * 10 ^ (nRound m e k).2.toNat ∧ B.length = (-(nRound m e k).2).toNat ∧ A.length ≤ (Lib.decDigits (nRound m e k).1.natAbs).length + (nRound m e k).2.toNat ∧ pPlaces (partP k) m e = A ++ 46 :: (B ++ List.replicate (k - B.length) 48) := by
  obtain ⟨A, B, hA, hB, h0, c1, c2, hv, hl, ha⟩ := text_parts (nRound m e k).1 (nRound m e k).2 (nRound_pos m e k h)
  refine ⟨A, B, hA, hB, h0, hv, hl, ha, ?_⟩
  show pPlaces ⟨4, [], 1, false, true, k, k⟩ m e = _
  unfold pPlaces
  dsimp only
  rw [c1, c2]
  have hw : List.replicate (1 - (if A = [48] then [] else A : Bs).length) 48 ++ (if A = [48] then [] else A : Bs) = A := by
    by_cases hr : A = [48]
    · rw [if_pos hr, hr]; rfl
    · rw [if_neg hr]
      obtain ⟨c, r, rfl⟩ : ∃ c r, A = c :: r := by cases A with | nil => exact absurd rfl h0 | cons c r => exact ⟨c, r, rfl⟩
      have : 1 - (c :: r).length = 0 := by simp
      rw [this]
      rfl
  rw [hw]
  simp
theorem numberP (k : Nat) (m e : Int) : mNumber [secP k] m e = sgB (decide (m < 0) && oneNine (pPlaces (partP k) m.natAbs e)) ++ pPlaces (partP k) m.natAbs e := by
  have hs : secOf [secP k] m = secP k := by
    unfold secOf
    rw [if_neg (by simp), if_neg (by simp), if_neg (by simp)]
    rfl
  have hp : partText (partP k) m.natAbs e = pPlaces (partP k) m.natAbs e := by
    unfold partText
    rw [if_neg (by simp [partP]), if_pos (by rfl)]
  have ho : partSome (partP k) m.natAbs e = oneNine (pPlaces (partP k) m.natAbs e) := by
    unfold partSome
    rw [hp]
    rfl
  unfold mNumber
  rw [hs]
  dsimp only [secP, hundred]
  simp only [List.flatMap_cons, List.flatMap_nil, List.append_nil, List.any_cons, List.any_nil, Bool.or_false, hp, ho, List.length_singleton]
  generalize oneNine (pPlaces (partP k) m.natAbs e) = q
  by_cases h1 : m < 0 <;> cases q <;> simp [h1, sgB]
theorem sg_abs (b : Bool) (n : Nat) : (sg b n).natAbs = n := by cases b <;> simp [sg]
theorem trim_right (n : Nat) (e0 : Int) (b : Bool) (h0 : 0 < n) (hn : n < 1000000000000000) (he : -40 ≤ e0) (ht : (dlen n : Int) + e0 ≤ 40) : pRight (sg b (pTrim n e0).1) (pTrim n e0).2 = true ∧ e0 ≤ (pTrim n e0).2 ∧ (pTrim n e0).1 ≠ 0 := by
  obtain ⟨j, h1, h2, h3, h4⟩ := pTrim_is n e0 h0
  generalize pTrim n e0 = t at *
  have hne : t.1 ≠ 0 := by intro h; rw [h] at h3; exact h3 rfl
  have hle : t.1 ≤ n := by rw [h1]; exact Nat.le_mul_of_pos_right _ (Nat.pow_pos (by decide))
  have hp := dlen_pos t.1 (by omega)
  have hdg := dlen_digs t.1 (by omega) (by omega)
  refine ⟨?_, by omega, hne⟩
  unfold pRight
  have hs : sg b t.1 ≠ 0 := fun h => hne (by have := sg_abs b t.1; rw [h] at this; omega)
  rw [if_neg hs, sg_abs, hdg]
  simp only [Bool.and_eq_true, decide_eq_true_eq]
  exact ⟨⟨⟨⟨by omega, h3⟩, by omega⟩, by omega⟩, by omega⟩
theorem nRound_is (m e : Int) (k : Nat) (hR : pRight m e = true) (hk : k ≤ 30) :
    nRound m e k = (sg (decide (m < 0)) (nRound (m.natAbs : Int) e k).1.natAbs, (nRound (m.natAbs : Int) e k).2) ∧ ((nRound (m.natAbs : Int) e k).1 ≠ 0 → -(k : Int) ≤ (nRound (m.natAbs : Int) e k).2) := by
  have hb := rb hR
  have hm : sg (decide (m < 0)) m.natAbs = m := by
    unfold sg
    by_cases h : m < 0
    · rw [decide_eq_true h, if_pos rfl]; omega
    · rw [decide_eq_false h, if_neg (by decide)]; omega
  unfold nRound
  have h2 : ((m.natAbs : Int)).natAbs = m.natAbs := by omega
  have h3 : decide ((m.natAbs : Int) < 0) = false := decide_eq_false (by omega)
  rw [h2, h3]
  by_cases c1 : 40 ≤ k ∨ -(k : Int) ≤ e
  · rw [if_pos c1, if_pos c1]
    dsimp only
    rw [h2, hm]
    exact ⟨rfl, fun _ => by omega⟩
  · rw [if_neg c1, if_neg c1]
    by_cases c2 : 15 < -(k : Int) - e
    · rw [if_pos c2, if_pos c2]
      refine ⟨?_, fun h => absurd rfl h⟩
      cases decide (m < 0) <;> rfl
    · rw [if_neg c2, if_neg c2]
      dsimp only
      have hu : 10 ≤ 10 ^ (-(k : Int) - e).toNat := by
        obtain ⟨j, hj⟩ : ∃ j, (-(k : Int) - e).toNat = j + 1 := ⟨(-(k : Int) - e).toNat - 1, by omega⟩
        rw [hj, Nat.pow_succ]
        have : 0 < 10 ^ j := Nat.pow_pos (by decide)
        omega
      have hd : m.natAbs / 10 ^ (-(k : Int) - e).toNat ≤ m.natAbs / 10 := Nat.div_le_div_left hu (by decide)
      have hn : (m.natAbs / 10 ^ (-(k : Int) - e).toNat + if 10 ^ (-(k : Int) - e).toNat ≤ m.natAbs % 10 ^ (-(k : Int) - e).toNat * 2 then 1 else 0) < 1000000000000000 := by
        split <;> omega
      generalize (m.natAbs / 10 ^ (-(k : Int) - e).toNat + if 10 ^ (-(k : Int) - e).toNat ≤ m.natAbs % 10 ^ (-(k : Int) - e).toNat * 2 then 1 else 0) = n at *
      by_cases hz : n = 0
      · subst hz
        rw [pTrim_zero]
        have r0 : ∀ b, pRight (sg b 0) 0 = true := fun b => by cases b <;> rfl
        rw [if_pos (r0 _), if_pos (r0 _)]
        refine ⟨?_, fun h => absurd rfl h⟩
        cases decide (m < 0) <;> rfl
      · have hdl : dlen n ≤ 15 := by
          rw [← dlen_digs n (by omega) hn]
          exact digs_15 n hn
        obtain ⟨r1, r2, r3⟩ := trim_right n (-(k : Int)) (decide (m < 0)) (by omega) hn (by omega) (by omega)
        obtain ⟨r4, _, _⟩ := trim_right n (-(k : Int)) false (by omega) hn (by omega) (by omega)
        rw [if_pos r1, if_pos r4]
        dsimp only
        rw [sg_abs]
        exact ⟨rfl, fun _ => r2⟩
theorem oneNine_app (a b : Bs) : oneNine (a ++ b) = (oneNine a || oneNine b) := by unfold oneNine; rw [List.any_append]
theorem oneNine_zero : ∀ l : Bs, AllDig l → oneNine l = false → natOf (digL l) = 0
  | [], _, _ => rfl
  | c :: t, h, ho => by
    have ho' : (decide (49 ≤ c.toNat) && decide (c.toNat ≤ 57)) = false ∧ oneNine t = false := by
      unfold oneNine at *
      rw [List.any_cons, Bool.or_eq_false_iff] at ho
      exact ho
    have ih := oneNine_zero t (fun x hx => h x (List.mem_cons_of_mem _ hx)) ho'.2
    have hc := (isDigit_iff c).1 (h c (List.mem_cons_self ..))
    have hc0 : c.toNat - 48 = 0 := by
      have := ho'.1
      rw [Bool.and_eq_false_iff] at this
      simp only [decide_eq_false_iff_not] at this
      omega
    show natOf ((c.toNat - 48) :: digL t) = 0
    rw [natOf_cons, ih, hc0, Nat.zero_mul]
theorem near_P (q : Bool) (M : Nat) (E : Int) (j : Nat) (e0 : Int) (hj : e0 + j = E) (hR : pRight (M : Int) E = true) (he : -40 ≤ e0) : pNear q (M * 10 ^ j) e0 = some (sg q M, E) := by
  by_cases hz : M = 0
  · subst hz
    have h0 : E = 0 := by unfold pRight at hR; simpa using hR
    rw [Nat.zero_mul, h0, pNear_zero]
    cases q <;> rfl
  · obtain ⟨r1, r2, r3, r4, r5⟩ := pRight_of hR (by omega)
    have hM : (M : Int).natAbs = M := by omega
    rw [hM] at r1 r2 r5
    have hd := dlen_digs M (by omega) r1
    have h15 := digs_15 M r1
    rw [pNear_text q M j e0 r2 (by omega) he (by omega), hj]
    rfl
theorem reads_P (m e : Int) (k : Nat) (hR : pRight m e = true) (hk : k ≤ 30) : 0 < (mNumber [secP k] m e).length ∧ (mNumber [secP k] m e).length ≤ 255 ∧
    (k = 0 → ∃ t : Bs, mNumber [secP k] m e = t ++ [46] ∧ pParse t = some (nRound m e k)) ∧ (0 < k → pParse (mNumber [secP k] m e) = some (nRound m e k)) := by
  obtain ⟨hq, hge⟩ := nRound_is m e k hR hk
  have hRr := nRound_right (m.natAbs : Int) e k (pRight_abs m e hR)
  have h0 := nRound_pos (m.natAbs : Int) e k (by omega)
  obtain ⟨A, B, hA, hB, hne, hv, hl, hal, hp⟩ := placesP k m.natAbs e (by omega)
  rw [numberP, hp, hq]
  clear hp hq
  generalize (nRound (m.natAbs : Int) e k).2 = E at *
  generalize (nRound (m.natAbs : Int) e k).1 = I at *
  obtain ⟨M, rfl⟩ : ∃ M : Nat, I = M := ⟨I.natAbs, by omega⟩
  have hM : (M : Int).natAbs = M := by omega
  rw [hM] at hv hal ⊢
  have hE : -(k : Int) ≤ E := by
    by_cases hz : M = 0
    · subst hz
      have h0 : E = 0 := by unfold pRight at hRr; simpa using hRr
      omega
    · exact hge (by omega)
  have hE2 : E ≤ 40 := by
    by_cases hz : M = 0
    · subst hz
      have h0 : E = 0 := by unfold pRight at hRr; simpa using hRr
      omega
    · have := pRight_of hRr (by omega); omega
  have hdl : (Lib.decDigits M).length ≤ 20 := by
    have hb := rb hRr
    have := (dec_len (M : Int) (by omega) (by omega)).2
    rw [hM] at this
    exact this
  have hz : ∀ n, digL (List.replicate n 48) = List.replicate n 0 := fun n => by simp [digL]
  have hAB : AllDig (A ++ B) := hA.app hB
  have hsg : ∀ o : Bool, (M ≠ 0 → o = true) → sg (decide (m < 0) && o) M = sg (decide (m < 0)) M := by
    intro o ho
    by_cases hz : M = 0
    · subst hz; cases (decide (m < 0) && o) <;> cases decide (m < 0) <;> rfl
    · rw [ho hz, Bool.and_true]
  have hon : M ≠ 0 → oneNine (A ++ 46 :: (B ++ List.replicate (k - B.length) 48)) = true := by
    intro hM0
    cases ho : oneNine (A ++ 46 :: (B ++ List.replicate (k - B.length) 48))
    · exfalso
      rw [oneNine_app, Bool.or_eq_false_iff] at ho
      have h2 : oneNine (46 :: (B ++ List.replicate (k - B.length) 48)) = (oneNine B || oneNine (List.replicate (k - B.length) 48)) := by
        rw [← oneNine_app]; rfl
      rw [h2, Bool.or_eq_false_iff] at ho
      have h3 := oneNine_zero (A ++ B) hAB (by rw [oneNine_app, ho.1, ho.2.1]; rfl)
      rw [h3] at hv
      have : 0 < M * 10 ^ E.toNat := Nat.mul_pos (by omega) (Nat.pow_pos (by decide))
      omega
    · rfl
  have hs := hsg _ hon
  generalize oneNine (A ++ 46 :: (B ++ List.replicate (k - B.length) 48)) = o at *
  clear hon hsg
  have hql : (sgB (decide (m < 0) && o)).length ≤ 1 := by unfold sgB; split <;> decide
  have hlen : (sgB (decide (m < 0) && o) ++ (A ++ 46 :: (B ++ List.replicate (k - B.length) 48))).length ≤ 255 := by
    simp only [List.length_append, List.length_cons, List.length_replicate]
    omega
  refine ⟨by simp only [List.length_append, List.length_cons]; omega, hlen, fun hk0 => ?_, fun hk0 => ?_⟩
  · subst hk0
    have hB0 : B = [] := List.eq_nil_of_length_eq_zero (by omega)
    subst hB0
    refine ⟨sgB (decide (m < 0) && o) ++ A, by simp, ?_⟩
    rw [List.append_nil] at hv
    have hl2 : (sgB (decide (m < 0) && o) ++ A).length ≤ 255 := by rw [List.length_append]; omega
    rw [pParse_parts _ _ _ _ hl2 (pNumT_whole _ A hA hne), hv, near_P _ M E E.toNat _ (by omega) hRr (by omega), hs]
  · have hne2 : B ++ List.replicate (k - B.length) 48 ≠ [] := by
      intro h
      have := congrArg List.length h
      rw [List.length_append, List.length_replicate, List.length_nil] at this
      omega
    have hlz : (B ++ List.replicate (k - B.length) 48).length = k := by rw [List.length_append, List.length_replicate]; omega
    rw [pParse_parts _ _ _ _ hlen (pNumT_part _ A _ hA (hB.app (AllDig.zeros _)) hne2), hlz]
    have hv2 : natOf (digL A ++ digL (B ++ List.replicate (k - B.length) 48)) = M * 10 ^ (E.toNat + (k - B.length)) := by
      rw [digL_append, ← List.append_assoc, ← digL_append, natOf_append, hv, hz, natOf_zeros, List.length_replicate, Nat.add_zero, Nat.pow_add, Nat.mul_assoc]
    rw [hv2, near_P _ M E _ _ (by omega) hRr (by omega), hs]
theorem half_digit (x r p : Nat) (hr : r < p) : (10 * p ≤ (x * p + r) * 2) ↔ 5 ≤ x := by
  constructor
  · intro h
    rcases Nat.lt_or_ge x 5 with hx | hx
    · have : x * p ≤ 4 * p := Nat.mul_le_mul_right p (by omega)
      omega
    · exact hx
  · intro h
    have : 5 * p ≤ x * p := Nat.mul_le_mul_right p h
    omega
theorem near_trim (q : Bool) (n k : Nat) (hk : k ≤ 30) (hn : n < 1000000000000000) : pNear q n (-(k : Int)) = some (sg q (pTrim n (-(k : Int))).1, (pTrim n (-(k : Int))).2) ∧ pRight (sg q (pTrim n (-(k : Int))).1) (pTrim n (-(k : Int))).2 = true := by
  by_cases hz : n = 0
  · subst hz
    rw [pNear_zero, pTrim_zero]
    cases q <;> exact ⟨rfl, rfl⟩
  · have hdl : dlen n ≤ 15 := by
      rw [← dlen_digs n (by omega) hn]
      exact digs_15 n hn
    obtain ⟨r1, _, _⟩ := trim_right n (-(k : Int)) q (by omega) hn (by omega) (by omega)
    obtain ⟨r4, _, _⟩ := trim_right n (-(k : Int)) false (by omega) hn (by omega) (by omega)
    refine ⟨?_, r1⟩
    obtain ⟨j, h1, h2, h3, h4⟩ := pTrim_is n (-(k : Int)) (by omega)
    generalize pTrim n (-(k : Int)) = t at *
    rw [h1]
    exact near_P q t.1 t.2 j _ h2.symm r4 (by omega)
theorem round_past (m e : Int) (k : Nat) (hR : pRight m e = true) (hk : k ≤ 30) (j : Nat) (hj : -(k : Int) - e = j) (hn : (dl m.natAbs).length < j) : nRound m e k = (0, 0) := by
  have hb := rb hR
  rw [dl_len] at hn
  have hlt := dlen_lt m.natAbs
  unfold nRound
  rw [if_neg (by omega)]
  by_cases c2 : 15 < -(k : Int) - e
  · rw [if_pos c2]
  · rw [if_neg c2, hj]
    have hj2 : (j : Int).toNat = j := by omega
    dsimp only
    rw [hj2]
    obtain ⟨i, rfl⟩ : ∃ i, j = i + 1 := ⟨j - 1, by omega⟩
    have hp : 10 ^ dlen m.natAbs ≤ 10 ^ i := Nat.pow_le_pow_right (by decide) (by omega)
    have hp2 : 10 ^ (i + 1) = 10 ^ i * 10 := Nat.pow_succ ..
    rw [Nat.div_eq_of_lt (by omega), Nat.mod_eq_of_lt (by omega), if_neg (show ¬ 10 ^ (i + 1) ≤ m.natAbs * 2 by omega), Nat.add_zero, pTrim_zero]
    have r0 : ∀ b, pRight (sg b 0) 0 = true := fun b => by cases b <;> rfl
    rw [if_pos (r0 _)]
    cases decide (m < 0) <;> rfl
theorem round_near (m e : Int) (k : Nat) (hR : pRight m e = true) (hk : k ≤ 30) (j n : Nat) (hj : -(k : Int) - e = j) (hj0 : 0 < j) (hn : (dl m.natAbs).length = n + j) (x : Nat) (hx : (dl m.natAbs)[n]? = some x) :
    pNear (decide (m < 0)) (natOf ((dl m.natAbs).take n) + if 5 ≤ x then 1 else 0) (-(k : Int)) = some (nRound m e k) := by
  have hb := rb hR
  have hd := dl_dig m.natAbs
  have hv := dl_nat m.natAbs
  have h15 : (dl m.natAbs).length ≤ 15 := by
    rw [dl_len]
    by_cases hz : m.natAbs = 0
    · rw [hz]; decide
    · rw [← dlen_digs _ (by omega) (by omega)]; exact digs_15 _ (by omega)
  generalize dl m.natAbs = L at *
  have hnl : n < L.length := by omega
  have hdr : L.drop n = x :: L.drop (n + 1) := by
    rw [List.drop_eq_getElem_cons hnl]
    congr 1
    rw [List.getElem?_eq_getElem hnl] at hx
    exact Option.some.inj hx
  obtain ⟨i, rfl⟩ : ∃ i, j = i + 1 := ⟨j - 1, by omega⟩
  have hli : (L.drop (n + 1)).length = i := by rw [List.length_drop]; omega
  have hsum : m.natAbs = natOf (L.take n) * 10 ^ (i + 1) + (x * 10 ^ i + natOf (L.drop (n + 1))) := by
    rw [← hv]
    conv => lhs; rw [← List.take_append_drop n L, natOf_append, hdr, natOf_cons, List.length_cons, hli]
  have hr := natOf_lt _ (hd.drop (n + 1))
  rw [hli] at hr
  have hx9 : x ≤ 9 := (hdr ▸ hd.drop n : Dig (x :: L.drop (n + 1))).head
  have hlow : x * 10 ^ i + natOf (L.drop (n + 1)) < 10 ^ (i + 1) := by
    have h9 : x * 10 ^ i ≤ 9 * 10 ^ i := Nat.mul_le_mul_right _ hx9
    rw [Nat.pow_succ]
    omega
  have hhd := half_digit x (natOf (L.drop (n + 1))) (10 ^ i) hr
  have hpe : 10 * 10 ^ i = 10 ^ (i + 1) := by rw [Nat.pow_succ, Nat.mul_comm]
  rw [hpe] at hhd
  unfold nRound
  rw [if_neg (show ¬ (40 ≤ k ∨ -(k : Int) ≤ e) by omega), if_neg (show ¬ 15 < -(k : Int) - e by omega), hj]
  have hj2 : ((i + 1 : Nat) : Int).toNat = i + 1 := by omega
  dsimp only
  rw [hj2]
  have hdiv : m.natAbs / 10 ^ (i + 1) = natOf (L.take n) := by
    rw [hsum, Nat.mul_comm, Nat.mul_add_div (Nat.pow_pos (by decide)), Nat.div_eq_of_lt hlow, Nat.add_zero]
  have hmod : m.natAbs % 10 ^ (i + 1) = x * 10 ^ i + natOf (L.drop (n + 1)) := by
    rw [hsum, Nat.mul_comm, Nat.mul_add_mod, Nat.mod_eq_of_lt hlow]
  have hc : (if 10 ^ (i + 1) ≤ m.natAbs % 10 ^ (i + 1) * 2 then 1 else 0 : Nat) = if 5 ≤ x then 1 else 0 := by
    rw [hmod]
    by_cases h5 : 5 ≤ x
    · rw [if_pos h5, if_pos (hhd.2 h5)]
    · rw [if_neg h5, if_neg (fun h => h5 (hhd.1 h))]
  rw [hc, hdiv]
  have hN : (natOf (L.take n) + if 5 ≤ x then 1 else 0) < 1000000000000000 := by
    have : m.natAbs / 10 ^ (i + 1) ≤ m.natAbs / 10 := Nat.div_le_div_left (by rw [Nat.pow_succ]; have : 0 < 10 ^ i := Nat.pow_pos (by decide); omega) (by decide)
    rw [hdiv] at this
    split <;> omega
  obtain ⟨k1, k2⟩ := near_trim (decide (m < 0)) _ k hk hN
  rw [if_pos k2, k1]
end Go.Proofs.YteccjdclkcipbaaDoor
