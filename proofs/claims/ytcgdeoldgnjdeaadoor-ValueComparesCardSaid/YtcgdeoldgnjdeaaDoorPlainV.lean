/-
  Plain words: folding.
-/
import Derived.Test.YtcgdeoldgnjdeaaDoorPlain1
namespace Go.Proofs.YtcgdeoldgnjdeaaDoor
open Go.RowKit

def isLow (c : UInt8) : Bool := decide (97 ≤ c.toNat) && decide (c.toNat ≤ 122)
def up (c : UInt8) : UInt8 := if isLow c then c - 32 else c
def pFold (l : Bs) : Bs := l.map up
theorem isLow_iff (c : UInt8) : isLow c = true ↔ 97 ≤ c.toNat ∧ c.toNat ≤ 122 := by simp [isLow]
theorem up_low (c : UInt8) (h : isLow c = true) : (up c).toNat = c.toNat - 32 := by
  have h1 := (isLow_iff c).1 h
  unfold up
  rw [if_pos h, UInt8.toNat_sub_of_le]
  · rfl
  · rw [UInt8.le_iff_toNat_le]; show 32 ≤ c.toNat; omega
theorem up_other (c : UInt8) (h : isLow c = false) : up c = c := by unfold up; rw [h]; rfl
theorem pFold_len (l : Bs) : (pFold l).length = l.length := by simp [pFold]
theorem pFold_same (l : Bs) (h : ∀ c ∈ l, isLow c = false) : pFold l = l := by
  induction l with
  | nil => rfl
  | cons c l ih => simp only [pFold, List.map_cons]; rw [up_other c (h c (by simp))]; congr 1; exact ih fun d hd => h d (by simp [hd])
/-- folded as far as a place -/
def half (l : Bs) (k : Nat) : Bs := pFold (l.take k) ++ l.drop k
theorem half_len (l : Bs) (k : Nat) : (half l k).length = l.length := by simp [half, pFold]; omega
theorem half_get (l : Bs) (k : Nat) (h : k < l.length) (h' : k < (half l k).length) : (half l k)[k] = l[k] := by
  have e : (pFold (l.take k)).length = k := by rw [pFold_len, List.length_take]; omega
  have h2 : (half l k)[k]? = l[k]? := by
    unfold half
    rw [List.getElem?_append_right (by omega), e, Nat.sub_self, List.getElem?_drop, Nat.add_zero]
  rw [List.getElem?_eq_getElem h', List.getElem?_eq_getElem h] at h2
  injection h2
theorem half_set (l : Bs) (k : Nat) (h : k < l.length) : (half l k).set k (up l[k]) = half l (k + 1) := by
  have e : (pFold (l.take k)).length = k := by rw [pFold_len, List.length_take]; omega
  unfold half
  rw [List.set_append_right (h := by omega), e, Nat.sub_self, List.drop_eq_getElem_cons h, List.set_cons_zero, List.take_succ_eq_append_getElem h]
  unfold pFold
  rw [List.map_append, List.append_assoc]
  rfl
theorem half_same (l : Bs) (k : Nat) (h : k < l.length) (hu : up l[k] = l[k]) : half l k = half l (k + 1) := by
  have h' : k < (half l k).length := by rw [half_len]; exact h
  rw [← half_set l k h, hu, ← half_get l k h h']
  exact (List.set_getElem_self h').symm
theorem half_all (l : Bs) : half l l.length = pFold l := by simp [half]
/-- a row of bytes that may be written -/
def Row (w : World) (b : Nat) (m : Bs) : Prop := ∀ j (h : j < m.length), w.cell? ⟨b, j, none⟩ = some (.int .u8 (m[j].toNat : Int)) ∧ w.frozen? ⟨b, j, none⟩ = false
theorem Row.set {w : World} {b : Nat} {m : Bs} (h : Row w b m) (k : Nat) (c : UInt8) : Row (w.setCell ⟨b, k, none⟩ (.int .u8 (c.toNat : Int))) b (m.set k c) := by
  intro j hj
  rw [List.length_set] at hj
  obtain ⟨h1, h2⟩ := h j hj
  by_cases e : k = j
  · subst e
    refine ⟨?_, by simpa using h2⟩
    rw [World.cell?_setCell_same' _ _ _ (by rw [h1]; rfl)]
    simp
  · refine ⟨?_, by simpa using h2⟩
    rw [World.cell?_setCell_other _ _ _ _ (by intro e2; cases e2; exact e rfl), h1]
    rw [List.getElem_set_ne e]

end Go.Proofs.YtcgdeoldgnjdeaaDoor
