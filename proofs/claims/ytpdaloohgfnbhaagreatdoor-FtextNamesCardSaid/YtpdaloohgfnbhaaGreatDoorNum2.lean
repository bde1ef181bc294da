/-
  num.cmpSize, Cmp: what they return.
-/
import Derived.Test.YtpdaloohgfnbhaaGreatDoorNum1
namespace Go.Proofs.YtpdaloohgfnbhaaGreatDoor
open Go.RowKit

theorem power_at (k : Int) (w : World) (h0 : 0 ≤ k) (h : k ≤ 15) :
    Calls Tryz.prog 93 #[.int .i64 k] w fun e w' => e = .returned (.int .u64 (p10 k.toNat : Int)) ∧ w = w' := by
  obtain ⟨n, rfl⟩ := Int.eq_ofNat_of_zero_le h0
  exact power_any n w (by omega)
def pCmp (m1 e1 m2 e2 : Int) : Int :=
  if pRight m1 e1 = true ∧ pRight m2 e2 = true then (if sgn m1 = sgn m2 then sgn m1 * pCmpSize m1 e1 m2 e2 else cmpN (sgn m1) (sgn m2)) else 0
/-- two numbers in two boxes of the call's own -/
def TwoNum (w : World) (m1 e1 m2 e2 : Int) (w' : World) : Prop :=
  w.heap.size + 1 < w'.heap.size ∧ w'.cell? ⟨w.heap.size, 0, none⟩ = some (.int .i64 m1) ∧ w'.cell? ⟨w.heap.size, 1, none⟩ = some (.int .i64 e1) ∧ w'.cell? ⟨w.heap.size + 1, 0, none⟩ = some (.int .i64 m2) ∧ w'.cell? ⟨w.heap.size + 1, 1, none⟩ = some (.int .i64 e2) ∧ Below w.heap.size w w'
theorem TwoNum.next {w w' w'' : World} {m1 e1 m2 e2 : Int} (h : TwoNum w m1 e1 m2 e2 w') (hb : Below w'.heap.size w' w'') : TwoNum w m1 e1 m2 e2 w'' := by
  obtain ⟨h1, h2, h3, h4, h5, h6⟩ := h
  have hs := hb.size
  exact ⟨by omega, (hb.cell (p := ⟨_, _, none⟩) (by show w.heap.size < _; omega)).trans h2, (hb.cell (p := ⟨_, _, none⟩) (by show w.heap.size < _; omega)).trans h3, (hb.cell (p := ⟨_, _, none⟩) (by show w.heap.size + 1 < _; omega)).trans h4, (hb.cell (p := ⟨_, _, none⟩) (by show w.heap.size + 1 < _; omega)).trans h5, h6.trans (hb.mono h6.size)⟩
theorem TwoNum.start (w : World) (m1 e1 m2 e2 : Int) : TwoNum w m1 e1 m2 e2 ((w.alloc (.cells #[.int .i64 m1, .int .i64 e1] 33)).alloc (.cells #[.int .i64 m2, .int .i64 e2] 33)) :=
  ⟨by simp, by simp, by simp, by simp, by simp, ((Below.refl _ w).alloc (Nat.le_refl _) _).alloc (by simp) _⟩
theorem TwoNum.drew {w w' : World} {m1 e1 m2 e2 : Int} (h : TwoNum w m1 e1 m2 e2 w') : TwoNum w m1 e1 m2 e2 w'.drew := ⟨h.1, h.2.1, h.2.2.1, h.2.2.2.1, h.2.2.2.2.1, h.2.2.2.2.2.drew⟩
theorem pCmpSize_bd (m1 e1 m2 e2 : Int) : -1 ≤ pCmpSize m1 e1 m2 e2 ∧ pCmpSize m1 e1 m2 e2 ≤ 1 := by
  unfold pCmpSize cmpN
  split
  · omega
  · split <;> split <;> (try split) <;> omega
theorem sgn_bd (m : Int) : -1 ≤ sgn m ∧ sgn m ≤ 1 := by
  unfold sgn
  split
  · omega
  · split <;> omega
end Go.Proofs.YtpdaloohgfnbhaaGreatDoor
