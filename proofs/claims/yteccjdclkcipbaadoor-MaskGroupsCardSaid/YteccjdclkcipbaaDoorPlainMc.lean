/-
  mask.digits in plain words: how far its loops have come.
-/
import Derived.Test.YteccjdclkcipbaaDoorPlainMa
namespace Go.Proofs.YteccjdclkcipbaaDoor
open Go.RowKit

def HInv (l : Bs) (i : Nat) (c : Bool) : Prop := i ≤ l.length ∧ hashN false l = (i + (hashN (decide (0 < i)) (l.drop i)).1, c || (hashN (decide (0 < i)) (l.drop i)).2)
theorem HInv.start (l : Bs) : HInv l 0 false := ⟨Nat.zero_le _, by simp⟩
theorem at_get {l : Bs} {i : Nat} {c : UInt8} (h : atIs l i c = true) (hi : i < l.length) : l[i] = c := by
  unfold atIs at h
  rw [List.getElem?_eq_getElem hi] at h
  simpa using h
theorem at_not {l : Bs} {i : Nat} {c : UInt8} (h : atIs l i c = false) (hi : i < l.length) : l[i] ≠ c := by
  intro e
  unfold atIs at h
  rw [List.getElem?_eq_getElem hi, e] at h
  simp at h
theorem at_excl {l : Bs} {i : Nat} {a b : UInt8} (h : atIs l i a = true) (hab : a ≠ b) : atIs l i b = false := by
  unfold atIs at h ⊢
  rw [beq_iff_eq] at h
  rw [h, beq_eq_false_iff_ne]
  intro e
  exact hab (Option.some.inj e)
theorem HInv.hash {l : Bs} {i : Nat} {c : Bool} (h : HInv l i c) (hi : i < l.length) (ha : atIs l i 35 = true) : HInv l (i + 1) c := by
  refine ⟨hi, ?_⟩
  rw [h.2, List.drop_eq_getElem_cons hi, at_get ha hi]
  simp [hashN]
  omega
theorem HInv.comma {l : Bs} {i : Nat} {c : Bool} (h : HInv l i c) (hi : i < l.length) (h0 : 0 < i) (ha : atIs l i 44 = true) : HInv l (i + 1) true := by
  refine ⟨hi, ?_⟩
  rw [h.2, List.drop_eq_getElem_cons hi, at_get ha hi]
  simp [hashN, h0]
  omega
theorem HInv.stop {l : Bs} {i : Nat} {c : Bool} (h : HInv l i c) (hs : i < l.length → atIs l i 35 = false ∧ (atIs l i 44 = false ∨ i = 0)) : hashN false l = (i, c) := by
  rw [h.2]
  rcases Nat.lt_or_ge i l.length with hi | hi
  · obtain ⟨h1, h2⟩ := hs hi
    rw [List.drop_eq_getElem_cons hi]
    have n1 := at_not h1 hi
    have n2 : ¬ (l[i] = 44 ∧ decide (0 < i) = true) := by
      rintro ⟨e1, e2⟩
      rcases h2 with h2 | h2
      · exact at_not h2 hi e1
      · subst h2; simp at e2
    simp only [hashN]
    rw [if_neg n1, if_neg n2]
    simp
  · rw [List.drop_of_length_le hi]
    simp [hashN]
def ZInv (l : Bs) (a i : Nat) (c : Bool) (n : Nat) : Prop := a ≤ i ∧ i ≤ l.length ∧ n ≤ i ∧ zeroN (decide (0 < a)) (l.drop a) = (i - a + (zeroN (decide (0 < i)) (l.drop i)).1, c || (zeroN (decide (0 < i)) (l.drop i)).2.1, n + (zeroN (decide (0 < i)) (l.drop i)).2.2)
theorem ZInv.start (l : Bs) (a : Nat) (h : a ≤ l.length) : ZInv l a a false 0 := ⟨Nat.le_refl _, h, Nat.zero_le _, by simp⟩
theorem ZInv.zero {l : Bs} {a i : Nat} {c : Bool} {n : Nat} (h : ZInv l a i c n) (hi : i < l.length) (ha : atIs l i 48 = true) : ZInv l a (i + 1) c (n + 1) := by
  obtain ⟨h1, h2, h3, h4⟩ := h
  refine ⟨by omega, hi, by omega, ?_⟩
  rw [h4, List.drop_eq_getElem_cons hi, at_get ha hi]
  simp [zeroN]
  omega
theorem ZInv.comma {l : Bs} {a i : Nat} {c : Bool} {n : Nat} (h : ZInv l a i c n) (hi : i < l.length) (h0 : 0 < i) (ha : atIs l i 44 = true) : ZInv l a (i + 1) true n := by
  obtain ⟨h1, h2, h3, h4⟩ := h
  refine ⟨by omega, hi, by omega, ?_⟩
  rw [h4, List.drop_eq_getElem_cons hi, at_get ha hi]
  simp [zeroN, h0]
  omega
theorem ZInv.stop {l : Bs} {a i : Nat} {c : Bool} {n : Nat} (h : ZInv l a i c n) (hs : i < l.length → atIs l i 48 = false ∧ (atIs l i 44 = false ∨ i = 0)) : zeroN (decide (0 < a)) (l.drop a) = (i - a, c, n) := by
  rw [h.2.2.2]
  rcases Nat.lt_or_ge i l.length with hi | hi
  · obtain ⟨h1, h2⟩ := hs hi
    rw [List.drop_eq_getElem_cons hi]
    have n1 := at_not h1 hi
    have n2 : ¬ (l[i] = 44 ∧ decide (0 < i) = true) := by
      rintro ⟨e1, e2⟩
      rcases h2 with h2 | h2
      · exact at_not h2 hi e1
      · subst h2; simp at e2
    simp only [zeroN]
    rw [if_neg n1, if_neg n2]
    simp
  · rw [List.drop_of_length_le hi]
    simp [zeroN]
/-- how far a run of one sign has come -/
def RInv (l : Bs) (d : UInt8) (a i : Nat) : Prop := a ≤ i ∧ i ≤ l.length ∧ runP (fun c => c == d) (l.drop a) = i - a + runP (fun c => c == d) (l.drop i)
theorem RInv.start (l : Bs) (d : UInt8) (a : Nat) (h : a ≤ l.length) : RInv l d a a := ⟨Nat.le_refl _, h, by simp⟩
theorem RInv.step {l : Bs} {d : UInt8} {a i : Nat} (h : RInv l d a i) (hi : i < l.length) (ha : atIs l i d = true) : RInv l d a (i + 1) := by
  obtain ⟨h1, h2, h3⟩ := h
  refine ⟨by omega, hi, ?_⟩
  rw [h3, List.drop_eq_getElem_cons hi, at_get ha hi]
  simp [runP]
  omega
theorem RInv.stop {l : Bs} {d : UInt8} {a i : Nat} (h : RInv l d a i) (hs : i < l.length → atIs l i d = false) : runP (fun c => c == d) (l.drop a) = i - a := by
  rw [h.2.2]
  rcases Nat.lt_or_ge i l.length with hi | hi
  · have := at_not (hs hi) hi
    rw [List.drop_eq_getElem_cons hi]
    simp [runP, this]
  · rw [List.drop_of_length_le hi]
    simp [runP]
end Go.Proofs.YteccjdclkcipbaaDoor
