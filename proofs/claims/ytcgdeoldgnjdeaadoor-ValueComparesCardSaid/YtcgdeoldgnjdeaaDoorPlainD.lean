/-
  Plain words: decimals.
-/
import Derived.WalkKit
namespace Go.Proofs.YtcgdeoldgnjdeaaDoor
open Go.RowKit

/-- how many digits a number has -/
def nDig : Nat → Nat → Nat
  | 0, _ => 1
  | f + 1, n => if n < 10 then 1 else nDig f (n / 10) + 1
def digs (n : Nat) : Nat := nDig 20 n
theorem nDig_fuel : ∀ (f g n : Nat), n < 10 ^ (f + 1) → n < 10 ^ (g + 1) → nDig f n = nDig g n := by
  intro f
  induction f with
  | zero =>
    intro g n hf hg
    have : n < 10 := by simpa using hf
    cases g with
    | zero => rfl
    | succ g => simp [nDig, this]
  | succ f ih =>
    intro g n hf hg
    cases g with
    | zero =>
      have : n < 10 := by simpa using hg
      simp [nDig, this]
    | succ g =>
      simp only [nDig]
      split
      · rfl
      · rw [ih g (n / 10)]
        · rw [Nat.div_lt_iff_lt_mul (by decide)]; rw [Nat.pow_succ] at hf; exact hf
        · rw [Nat.div_lt_iff_lt_mul (by decide)]; rw [Nat.pow_succ] at hg; exact hg
theorem digs_small (n : Nat) (h : n < 10) : digs n = 1 := by unfold digs nDig; rw [if_pos h]
theorem digs_big (n : Nat) (h : ¬ n < 10) (hn : n < 18446744073709551616) : digs n = digs (n / 10) + 1 := by
  unfold digs
  rw [nDig, if_neg h, nDig_fuel 19 20 (n / 10)]
  · have : n / 10 < 1844674407370955162 := by omega
    exact Nat.lt_of_lt_of_le this (by decide)
  · have : n / 10 < 1844674407370955162 := by omega
    exact Nat.lt_of_lt_of_le this (by decide)
theorem digs_le (n : Nat) : 1 ≤ digs n ∧ digs n ≤ 21 := by
  have : ∀ f n, 1 ≤ nDig f n ∧ nDig f n ≤ f + 1 := by
    intro f
    induction f with
    | zero => intro n; simp [nDig]
    | succ f ih =>
      intro n
      simp only [nDig]
      split
      · omega
      · have := ih (n / 10); omega
  exact this 20 n
theorem nDig_lt : ∀ (f n : Nat), n < 10 ^ (f + 1) → n < 10 ^ nDig f n := by
  intro f
  induction f with
  | zero => intro n h; simpa [nDig] using h
  | succ f ih =>
    intro n h
    simp only [nDig]
    split
    · omega
    · have h1 : n / 10 < 10 ^ (f + 1) := by rw [Nat.div_lt_iff_lt_mul (by decide)]; rw [Nat.pow_succ] at h; exact h
      have := ih (n / 10) h1
      rw [Nat.pow_succ]
      omega
theorem nDig_ge : ∀ (f n : Nat), 0 < n → 10 ^ (nDig f n - 1) ≤ n := by
  intro f
  induction f with
  | zero => intro n h; simp [nDig]; omega
  | succ f ih =>
    intro n h
    simp only [nDig]
    split
    · simp; omega
    · have h1 := ih (n / 10) (by omega)
      have h2 : 1 ≤ nDig f (n / 10) := by
        cases f with
        | zero => simp [nDig]
        | succ f => simp only [nDig]; split <;> omega
      rw [show nDig f (n / 10) + 1 - 1 = (nDig f (n / 10) - 1) + 1 by omega, Nat.pow_succ]
      omega
theorem digs_lt (n : Nat) (h : n < 1000000000000000) : n < 10 ^ digs n := nDig_lt 20 n (Nat.lt_of_lt_of_le h (by decide))
theorem digs_ge (n : Nat) (h : 0 < n) : 10 ^ (digs n - 1) ≤ n := nDig_ge 20 n h
theorem digs_15 (n : Nat) (h : n < 1000000000000000) : digs n ≤ 15 := by
  rcases Nat.eq_zero_or_pos n with h0 | h0
  · rw [h0]; decide
  · have h1 := digs_ge n h0
    rcases Nat.lt_or_ge 15 (digs n) with h2 | h2
    · have h3 : 10 ^ 15 ≤ 10 ^ (digs n - 1) := Nat.pow_le_pow_right (by decide) (by omega)
      have : (10 : Nat) ^ 15 = 1000000000000000 := by decide
      omega
    · exact h2
def p10 (n : Nat) : Nat := 10 ^ n
/-- a number's digits, as many as there may be -/
def norm (n : Nat) : Nat := n * p10 (15 - digs n)
theorem norm_lt (n : Nat) (h : n < 1000000000000000) : norm n < 1000000000000000 := by
  have h1 := digs_lt n h
  have h2 := digs_15 n h
  unfold norm p10
  have h3 : n * 10 ^ (15 - digs n) < 10 ^ digs n * 10 ^ (15 - digs n) := Nat.mul_lt_mul_of_pos_right h1 (Nat.pow_pos (by decide))
  rw [← Nat.pow_add, show digs n + (15 - digs n) = 15 by omega] at h3
  exact h3
def cmpN (x y : Int) : Int := if x < y then -1 else if y < x then 1 else 0
/-- whether a number is right -/
def pRight (m e : Int) : Bool :=
  if m = 0 then decide (e = 0)
  else decide (m.natAbs < 1000000000000000) && decide (m.natAbs % 10 ≠ 0) && decide (-40 ≤ e) && decide (e < 40) && decide ((digs m.natAbs : Int) + e ≤ 40)
theorem pRight_of {m e : Int} (h : pRight m e = true) (h0 : m ≠ 0) : m.natAbs < 1000000000000000 ∧ m.natAbs % 10 ≠ 0 ∧ -40 ≤ e ∧ e < 40 ∧ (digs m.natAbs : Int) + e ≤ 40 := by
  unfold pRight at h
  rw [if_neg h0] at h
  simp only [Bool.and_eq_true, decide_eq_true_eq] at h
  exact ⟨h.1.1.1.1, h.1.1.1.2, h.1.1.2, h.1.2, h.2⟩
/-- two sizes held against each other -/
def pCmpSize (m1 e1 m2 e2 : Int) : Int :=
  if m1 = 0 then 0
  else if (digs m1.natAbs : Int) + e1 = (digs m2.natAbs : Int) + e2 then cmpN (norm m1.natAbs) (norm m2.natAbs)
  else cmpN ((digs m1.natAbs : Int) + e1) ((digs m2.natAbs : Int) + e2)
end Go.Proofs.YtcgdeoldgnjdeaaDoor
