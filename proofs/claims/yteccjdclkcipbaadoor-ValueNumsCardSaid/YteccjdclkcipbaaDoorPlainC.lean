/-
  Plain words: numbers held against each other are held as whole numbers are.
-/
import Derived.Test.YteccjdclkcipbaaDoorPl1
import Derived.Test.YteccjdclkcipbaaDoorNum2
namespace Go.Proofs.YteccjdclkcipbaaDoor
open Go.RowKit

theorem cmpN_flip (a b : Int) : cmpN b a = - cmpN a b := by
  unfold cmpN
  split <;> split <;> (try split) <;> omega
theorem cmpN_self (a : Int) : cmpN a a = 0 := by unfold cmpN; simp
theorem cmpN_neg (a b : Int) : cmpN (-a) (-b) = cmpN b a := by
  unfold cmpN
  split <;> split <;> (try split) <;> (try split) <;> omega
theorem cmpN_lt {a b : Int} (h : a < b) : cmpN a b = -1 := if_pos h
theorem cmpN_gt {a b : Int} (h : b < a) : cmpN a b = 1 := by unfold cmpN; rw [if_neg (by omega), if_pos h]
theorem cmpN_mul (a b : Nat) (k : Nat) (hk : 0 < k) : cmpN ((a * k : Nat) : Int) ((b * k : Nat) : Int) = cmpN a b := by
  rcases Nat.lt_trichotomy a b with h | h | h
  · have h1 : a * k < b * k := Nat.mul_lt_mul_of_pos_right h hk
    rw [cmpN_lt (by omega), cmpN_lt (by omega)]
  · rw [h, cmpN_self, cmpN_self]
  · have h1 : b * k < a * k := Nat.mul_lt_mul_of_pos_right h hk
    rw [cmpN_gt (by omega), cmpN_gt (by omega)]
/-- a number, 40 powers of ten up -/
def vN (x : Nat) (e : Int) : Nat := x * 10 ^ (e + 40).toNat
def vNum (m e : Int) : Int := if m < 0 then -(vN m.natAbs e : Int) else vN m.natAbs e
theorem vN_pos {x : Nat} {e : Int} (h : 0 < x) : 0 < vN x e := Nat.mul_pos h (Nat.pow_pos (by decide))
theorem vN_lt (x : Nat) (e : Int) (h : x < 1000000000000000) (he : -40 ≤ e) : vN x e < 10 ^ ((digs x : Int) + e + 40).toNat := by
  have h1 := digs_lt x h
  have h2 : ((digs x : Int) + e + 40).toNat = digs x + (e + 40).toNat := by omega
  unfold vN
  rw [h2, Nat.pow_add]
  exact Nat.mul_lt_mul_of_pos_right h1 (Nat.pow_pos (by decide))
theorem vN_ge (x : Nat) (e : Int) (h : 0 < x) (he : -40 ≤ e) : 10 ^ ((digs x : Int) + e + 39).toNat ≤ vN x e := by
  have h1 := digs_ge x h
  have h3 := digs_le x
  have h2 : ((digs x : Int) + e + 39).toNat = (digs x - 1) + (e + 40).toNat := by omega
  unfold vN
  rw [h2, Nat.pow_add]
  exact Nat.mul_le_mul_right _ h1
theorem vN_norm (x : Nat) (e : Int) (h : x < 1000000000000000) (he : -40 ≤ e) : vN x e * 10 ^ 15 = norm x * 10 ^ ((digs x : Int) + e + 40).toNat := by
  have h1 := digs_15 x h
  have h2 : ((digs x : Int) + e + 40).toNat = digs x + (e + 40).toNat := by omega
  have h3 : 15 = (15 - digs x) + digs x := by omega
  unfold vN norm p10
  rw [h2]
  conv => lhs; rw [h3]
  rw [Nat.pow_add, Nat.pow_add, Nat.mul_assoc, Nat.mul_assoc]
  congr 1
  rw [← Nat.mul_assoc, Nat.mul_comm (10 ^ (e + 40).toNat), Nat.mul_assoc]
  congr 1
  exact Nat.mul_comm _ _
theorem pCmpSize_eq (m1 e1 m2 e2 : Int) (h1 : pRight m1 e1 = true) (h2 : pRight m2 e2 = true) (z1 : m1 ≠ 0) (z2 : m2 ≠ 0) :
    pCmpSize m1 e1 m2 e2 = cmpN (vN m1.natAbs e1) (vN m2.natAbs e2) := by
  obtain ⟨a1, a2, a3, a4, a5⟩ := pRight_of h1 z1
  obtain ⟨b1, b2, b3, b4, b5⟩ := pRight_of h2 z2
  unfold pCmpSize
  rw [if_neg z1]
  have p1 : 0 < m1.natAbs := by omega
  have p2 : 0 < m2.natAbs := by omega
  have l1 := vN_lt _ e1 a1 a3
  have l2 := vN_lt _ e2 b1 b3
  have g1 := vN_ge _ e1 p1 a3
  have g2 := vN_ge _ e2 p2 b3
  have n1 := vN_norm _ e1 a1 a3
  have n2 := vN_norm _ e2 b1 b3
  have d1 := digs_le m1.natAbs
  have d2 := digs_le m2.natAbs
  generalize m1.natAbs = x at *
  generalize m2.natAbs = y at *
  generalize digs x = dx at *
  generalize digs y = dy at *
  split
  · rename_i h
    rw [h] at n1
    rw [← cmpN_mul (vN x e1) (vN y e2) (10 ^ 15) (by decide), n1, n2, cmpN_mul _ _ _ (Nat.pow_pos (by decide))]
  · rename_i h
    rcases Int.lt_or_gt_of_ne h with hl | hl
    · have : 10 ^ ((dx : Int) + e1 + 40).toNat ≤ 10 ^ ((dy : Int) + e2 + 39).toNat := Nat.pow_le_pow_right (by decide) (by omega)
      rw [cmpN_lt hl, cmpN_lt (by omega)]
    · have : 10 ^ ((dy : Int) + e2 + 40).toNat ≤ 10 ^ ((dx : Int) + e1 + 39).toNat := Nat.pow_le_pow_right (by decide) (by omega)
      rw [cmpN_gt hl, cmpN_gt (by omega)]
theorem vNum_zero (e : Int) : vNum 0 e = 0 := by simp [vNum, vN]
theorem vNum_neg {m e : Int} (h : m < 0) : vNum m e < 0 := by
  unfold vNum
  rw [if_pos h]
  have := vN_pos (x := m.natAbs) (e := e) (by omega)
  omega
theorem vNum_pos {m e : Int} (h : 0 < m) : 0 < vNum m e := by
  unfold vNum
  rw [if_neg (by omega)]
  have := vN_pos (x := m.natAbs) (e := e) (by omega)
  omega
theorem sgn_neg {m : Int} (h : m < 0) : sgn m = -1 := if_pos h
theorem sgn_pos {m : Int} (h : 0 < m) : sgn m = 1 := by unfold sgn; rw [if_neg (by omega), if_pos h]
theorem pCmp_eq (m1 e1 m2 e2 : Int) (h1 : pRight m1 e1 = true) (h2 : pRight m2 e2 = true) : pCmp m1 e1 m2 e2 = cmpN (vNum m1 e1) (vNum m2 e2) := by
  unfold pCmp
  rw [if_pos ⟨h1, h2⟩]
  rcases Int.lt_trichotomy m1 0 with a | a | a <;> rcases Int.lt_trichotomy m2 0 with b | b | b
  · rw [sgn_neg a, sgn_neg b, if_pos rfl, pCmpSize_eq m1 e1 m2 e2 h1 h2 (by omega) (by omega)]
    unfold vNum
    rw [if_pos a, if_pos b, cmpN_neg, cmpN_flip]
    omega
  · subst b
    rw [sgn_neg a, vNum_zero, cmpN_lt (vNum_neg a)]
    rfl
  · rw [sgn_neg a, sgn_pos b, cmpN_lt (a := vNum m1 e1) (b := vNum m2 e2) (by have := vNum_neg (e := e1) a; have := vNum_pos (e := e2) b; omega)]
    rfl
  · subst a
    rw [sgn_neg b, vNum_zero, cmpN_gt (vNum_neg b)]
    rfl
  · subst a; subst b
    rw [vNum_zero, vNum_zero, cmpN_self 0, if_pos rfl]
    simp [sgn]
  · subst a
    rw [sgn_pos b, vNum_zero, cmpN_lt (vNum_pos b)]
    rfl
  · rw [sgn_pos a, sgn_neg b, cmpN_gt (a := vNum m1 e1) (b := vNum m2 e2) (by have := vNum_pos (e := e1) a; have := vNum_neg (e := e2) b; omega)]
    rfl
  · subst b
    rw [sgn_pos a, vNum_zero, cmpN_gt (vNum_pos a)]
    rfl
  · rw [sgn_pos a, sgn_pos b, if_pos rfl, pCmpSize_eq m1 e1 m2 e2 h1 h2 (by omega) (by omega)]
    unfold vNum
    rw [if_neg (by omega), if_neg (by omega)]
    omega
end Go.Proofs.YteccjdclkcipbaaDoor
