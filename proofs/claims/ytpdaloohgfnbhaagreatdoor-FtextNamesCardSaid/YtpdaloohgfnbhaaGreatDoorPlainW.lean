/-
  Plain law: a number's text means one number; digits with a nought ahead.
-/
import Derived.Test.YtpdaloohgfnbhaaGreatDoorPl1
import Derived.Test.YtpdaloohgfnbhaaGreatDoorNum9
namespace Go.Proofs.YtpdaloohgfnbhaaGreatDoor
open Go.RowKit

theorem any_bare (L : List Nat) : L.any (fun d => d != 0) = decide (0 < (bareL L).length) := by
  induction L with
  | nil => rfl
  | cons d L ih =>
    cases d with
    | zero => simpa [bareL] using ih
    | succ d => simp [bareL]
theorem natOf_ahead (H : List Nat) : natOf (0 :: H) = natOf H := by rw [natOf_cons]; simp
theorem dlen_le {n m : Nat} (h : n < 10 ^ m) : dlen n ≤ m := by
  rcases Nat.eq_zero_or_pos n with z | z
  · rw [z, dlen_zero]; omega
  · have := pow_lt_inv (Nat.lt_of_le_of_lt (dlen_ge n z) h)
    omega
theorem last_parity (H : List Nat) (K : List Nat) (hK : K = 0 :: H) (n : Nat) (hn : n + 1 = K.length) : natOf H % 2 = K[n] % 2 := by
  rw [← natOf_ahead H, ← hK]
  exact last_odd K n hn
def rStep (r d : Nat) : Nat := if 1000 < 10 * r + d then 1000 else 10 * r + d
def powR (L : List Nat) : Nat := L.foldl rStep 0
def PowRel (p r : Nat) : Prop := (p = r ∧ r ≤ 1000) ∨ (r = 1000 ∧ 1000 ≤ p)
theorem powRel_step {p r : Nat} (h : PowRel p r) (d : Nat) : PowRel (powStep p d) (rStep r d) := by
  unfold PowRel powStep rStep at *
  rcases h with ⟨h1, h2⟩ | ⟨h1, h2⟩
  · subst h1
    rw [if_pos (by omega)]
    split <;> omega
  · subst h1
    right
    refine ⟨if_pos (by omega), ?_⟩
    split <;> omega
theorem powRel_fold (L : List Nat) : ∀ p r, PowRel p r → PowRel (L.foldl powStep p) (L.foldl rStep r) := by
  induction L with
  | nil => intro p r h; exact h
  | cons d L ih => intro p r h; exact ih _ _ (powRel_step h d)
theorem powRel (L : List Nat) : PowRel (powN L) (powR L) := powRel_fold L 0 0 (.inl ⟨rfl, by omega⟩)
theorem powR_le (L : List Nat) : powR L ≤ 1000 := by rcases powRel L with ⟨_, h⟩ | ⟨h, _⟩ <;> omega
theorem pNear_low (neg : Bool) (n : Nat) (e : Int) (hn : dlen n ≤ 300) (he : e ≤ -1000) : pNear neg n e = some (0, 0) := by
  have h1 : (near1 n e).2 ≤ e + 285 := by
    unfold near1
    split
    · show e + ((dlen n - 15 : Nat) : Int) ≤ e + 285; omega
    · show e ≤ e + 285; omega
  have hb := near1_bd n e
  have hd : dlen (near1 n e).1 ≤ 16 := dlen_le (Nat.lt_of_le_of_lt hb (by decide))
  unfold pNear
  generalize near1 n e = p at *
  obtain ⟨m, f⟩ := p
  simp only at h1 hd ⊢
  have h2 : near2 m f = (0, -40) := by
    unfold near2
    rw [if_pos (by omega), rhe_big m _ (by omega)]
  rw [h2]
  rfl
def finNum2 (x : Bool × List Nat × Nat × Bool × List Nat) : Option (Int × Int) := pNear x.1 (natOf x.2.1) ((if x.2.2.2.1 then -(powR x.2.2.2.2 : Int) else powR x.2.2.2.2) - (x.2.2.1 : Int))
/-- the number that a text tells, as the document reads it -/
def rParse (l : Bs) : Option (Int × Int) := if 255 < l.length then none else (pNumT l).bind finNum2
theorem pNumT_bd (l : Bs) (x : Bool × List Nat × Nat × Bool × List Nat) (h : pNumT l = some x) : x.2.1.length ≤ l.length ∧ x.2.2.1 ≤ l.length ∧ Dig x.2.1 := by
  unfold pNumT at h
  have hi : (if atIs l 0 45 then 1 else 0) ≤ 1 := by split <;> omega
  generalize (if atIs l 0 45 then 1 else 0) = i at *
  have ha := runP_le isDigit (l.drop i)
  rw [List.length_drop] at ha
  have hb := runP_le isDigit (l.drop (i + runP isDigit (l.drop i) + 1))
  rw [List.length_drop] at hb
  simp only at h
  split at h
  · rename_i h46
    have h46' := at_lt _ _ _ h46
    split at h
    · cases h
    · obtain ⟨p, _, hx⟩ := Option.map_eq_some_iff.1 h
      subst hx
      refine ⟨?_, ?_, ?_⟩
      · simp only [List.length_append, digL_len, List.length_take, List.length_drop]
        omega
      · show runP isDigit _ ≤ _
        omega
      · exact (digL_dig _ _ (Nat.le_refl _)).append (digL_dig _ _ (Nat.le_refl _))
  · split at h
    · cases h
    · obtain ⟨p, _, hx⟩ := Option.map_eq_some_iff.1 h
      subst hx
      refine ⟨?_, Nat.zero_le _, ?_⟩
      · simp only [digL_len, List.length_take, List.length_drop]
        omega
      · exact digL_dig _ _ (Nat.le_refl _)
theorem finNum_eq (x : Bool × List Nat × Nat × Bool × List Nat) (h1 : x.2.1.length ≤ 255) (h2 : x.2.2.1 ≤ 255) (h3 : Dig x.2.1) : finNum (x.1, x.2.1, x.2.2.1, x.2.2.2.1, powN x.2.2.2.2) = finNum2 x := by
  obtain ⟨ng, ds, b, np, pd⟩ := x
  simp only at h1 h2 h3
  unfold finNum finNum2
  simp only
  have hN : dlen (natOf ds) ≤ 255 := Nat.le_trans (dlen_le (natOf_lt ds h3)) h1
  rcases powRel pd with ⟨e1, _⟩ | ⟨e1, e2⟩
  · rw [e1]
  · rw [e1]
    cases np
    · simp only [Bool.false_eq_true, if_false]
      rcases Nat.eq_zero_or_pos (natOf ds) with z | z
      · rw [z, pNear_zero, pNear_zero]
      · rw [pNear_high ng _ _ z (by omega), pNear_high ng _ _ z (by omega)]
    · simp only [if_true]
      rw [pNear_low ng _ _ (by omega) (by omega), pNear_low ng _ _ (by omega) (by omega)]
/-- BOTH READ ALIKE -/
theorem parse_eq (l : Bs) : pParse l = rParse l := by
  unfold pParse rParse
  split
  · rfl
  · rename_i hl
    rw [all_text]
    cases h : pNumT l with
    | none => rfl
    | some x =>
      obtain ⟨a1, a2, a3⟩ := pNumT_bd l x h
      exact finNum_eq x (by omega) (by omega) a3
end Go.Proofs.YtpdaloohgfnbhaaGreatDoor
