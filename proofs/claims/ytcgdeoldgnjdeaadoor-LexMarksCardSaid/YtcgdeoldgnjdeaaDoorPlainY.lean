/-
  Plain words: what rounding comes to.
-/
import Derived.Test.YtcgdeoldgnjdeaaDoorPl1
import Derived.Test.YtcgdeoldgnjdeaaDoorNum5
namespace Go.Proofs.YtcgdeoldgnjdeaaDoor
open Go.RowKit

theorem rhe_nil (k : Nat) : rhe 0 k = 0 := by
  have : 0 < 10 ^ k := Nat.pow_pos (by decide)
  unfold rhe
  rw [Nat.zero_mod, Nat.zero_div, if_neg (by omega)]
theorem pNear_zero (neg : Bool) (e : Int) : pNear neg 0 e = some (0, 0) := by
  have h1 : near1 0 e = (0, e) := if_neg (by rw [dlen_zero]; omega)
  have h2 : (near2 0 e).1 = 0 := by
    unfold near2
    split
    · exact rhe_nil _
    · rfl
  unfold pNear
  rw [h1]
  simp only [h2]
  rfl
theorem near1_bd (n : Nat) (e : Int) : (near1 n e).1 ≤ 1000000000000000 := by
  unfold near1
  split
  · rename_i h
    have h1 := dlen_lt n
    rw [show dlen n = 15 + (dlen n - 15) by omega] at h1
    exact rhe_le n (dlen n - 15) 15 h1
  · rename_i h
    have h1 := dlen_lt n
    have h2 : 10 ^ dlen n ≤ 10 ^ 15 := Nat.pow_le_pow_right (by decide) (by omega)
    have e : (10 : Nat) ^ 15 = 1000000000000000 := by decide
    show n ≤ _
    omega
theorem near2_bd (n : Nat) (e : Int) (h : n ≤ 1000000000000000) : (near2 n e).1 ≤ 1000000000000000 ∧ -40 ≤ (near2 n e).2 := by
  unfold near2
  split
  · rename_i h1
    refine ⟨?_, by show (-40 : Int) ≤ -40; omega⟩
    have h2 : 10 ^ 16 ≤ 10 ^ (15 + (-40 - e).toNat) := Nat.pow_le_pow_right (by decide) (by omega)
    have e16 : (10 : Nat) ^ 16 = 10000000000000000 := by decide
    exact rhe_le n _ 15 (by omega)
  · exact ⟨h, by show -40 ≤ e; omega⟩
theorem near1_pos (n : Nat) (e : Int) (h0 : 0 < n) : 0 < (near1 n e).1 := by
  unfold near1
  split
  · rename_i h
    have h1 := dlen_ge n h0
    rw [show dlen n - 1 = 14 + (dlen n - 15) by omega] at h1
    have := rhe_ge n (dlen n - 15) 14 h1
    have : 0 < 10 ^ 14 := by decide
    show 0 < rhe n (dlen n - 15)
    omega
  · exact h0
theorem pNear_high (neg : Bool) (n : Nat) (e : Int) (h0 : 0 < n) (h : 40 ≤ e) : pNear neg n e = none := by
  have hp := near1_pos n e h0
  have he : e ≤ (near1 n e).2 := by
    unfold near1
    split
    · show e ≤ e + _; omega
    · exact Int.le_refl _
  unfold pNear
  generalize near1 n e = p at *
  obtain ⟨m, f⟩ := p
  simp only at hp he ⊢
  have h2 : near2 m f = (m, f) := if_neg (by omega)
  rw [h2]
  simp only
  obtain ⟨k, a1, a2, a3, a4⟩ := pTrim_is m f hp
  have hd := dlen_pos m hp
  generalize pTrim m f = t at *
  obtain ⟨x, g⟩ := t
  simp only at a1 a2 a3 a4 ⊢
  unfold nearEnd
  rw [if_neg (by intro z; subst z; simp at a3), if_pos (by omega)]
theorem near_fin (neg : Bool) (n : Nat) (e : Int) (h : n ≤ 1000000000000000) (he : -40 ≤ e) :
    (if pRight (sg neg (pTrim n e).1) (pTrim n e).2 = true then some (sg neg (pTrim n e).1, (pTrim n e).2) else none) = nearEnd neg (pTrim n e).1 (pTrim n e).2 := by
  rcases Nat.eq_zero_or_pos n with h0 | h0
  · subst h0
    rw [pTrim_zero]
    cases neg <;> rfl
  · obtain ⟨k, a1, a2, a3, a4⟩ := pTrim_is n e h0
    generalize pTrim n e = t at *
    obtain ⟨x, g⟩ := t
    simp only at a1 a2 a3 a4 ⊢
    have hx0 : 0 < x := by rcases Nat.eq_zero_or_pos x with z | z; (subst z; simp at a3); exact z
    have hxn : x ≤ n := by rw [a1]; exact Nat.le_mul_of_pos_right _ (Nat.pow_pos (by decide))
    have hx15 : x < 1000000000000000 := by
      rcases Nat.lt_or_ge x 1000000000000000 with z | z
      · exact z
      · have : x = 1000000000000000 := by omega
        subst this
        simp at a3
    have hd := dlen_digs x hx0 hx15
    have hd1 := dlen_pos x hx0
    have habs : (sg neg x).natAbs = x := by unfold sg; cases neg <;> simp
    have hne : sg neg x ≠ 0 := by unfold sg; cases neg <;> simp <;> omega
    have hR : pRight (sg neg x) g = decide ((dlen x : Int) + g ≤ 40) := by
      unfold pRight
      rw [if_neg hne, habs, hd, decide_eq_true hx15, decide_eq_true a3, decide_eq_true (by omega : -40 ≤ g)]
      by_cases hg : (dlen x : Int) + g ≤ 40
      · rw [decide_eq_true hg, decide_eq_true (by omega)]; rfl
      · rw [decide_eq_false hg]; simp
    rw [hR]
    unfold nearEnd
    have hxz : ¬ x = 0 := by omega
    rw [if_neg hxz]
    by_cases hg : (dlen x : Int) + g ≤ 40
    · rw [decide_eq_true hg, if_pos rfl, if_neg (by omega)]; rfl
    · rw [decide_eq_false hg, if_neg (by decide), if_pos (by omega)]
theorem pNear_is (neg : Bool) (n : Nat) (e : Int) (n1 n2 : Nat) (e1 e2 : Int) (h1 : near1 n e = (n1, e1)) (h2 : near2 n1 e1 = (n2, e2)) :
    pNear neg n e = if pRight (sg neg (pTrim n2 e2).1) (pTrim n2 e2).2 = true then some (sg neg (pTrim n2 e2).1, (pTrim n2 e2).2) else none := by
  have b1 := near1_bd n e
  rw [h1] at b1
  have b2 := near2_bd n1 e1 b1
  rw [h2] at b2
  rw [near_fin neg n2 e2 b2.1 b2.2]
  unfold pNear
  rw [h1]
  simp only [h2]
end Go.Proofs.YtcgdeoldgnjdeaaDoor
