/-
  value: truthOrder, beside; two values in memory (merged: Val3, Val4).
-/
import Derived.Test.YtpdaloohgfnbhaaGreatDoorNum2
import Derived.Test.YtpdaloohgfnbhaaGreatDoorVal2
namespace Go.Proofs.YtpdaloohgfnbhaaGreatDoor
open Go.RowKit

structure Val where
  kind : Int
  mant : Int
  exp : Int
  text : Bs
  truth : Bool
  fault : Int
def zeroVal : Val := ⟨0, 0, 0, [], false, 0⟩
abbrev valC (v : Val) : Array Value := #[.int .i64 v.kind, .int .i64 v.mant, .int .i64 v.exp, .string ⟨v.text.toArray⟩, .bool v.truth, .int .i64 v.fault]
abbrev valV (v : Val) : Value := .agg (valC v)

def pTruthOrder (a b : Bool) : Int := if a = b then 0 else if b then -1 else 1
def pBeside (v u : Val) : Val := if v.kind ≠ 0 then v else if u.kind = 1 ∨ u.kind = 2 ∨ u.kind = 3 then ⟨u.kind, 0, 0, [], false, 0⟩ else v
/-- a value lies in a block -/
def Box (w : World) (n : Nat) (v : Val) : Prop :=
  w.cell? ⟨n, 0, none⟩ = some (.int .i64 v.kind) ∧ w.cell? ⟨n, 1, none⟩ = some (.int .i64 v.mant) ∧ w.cell? ⟨n, 2, none⟩ = some (.int .i64 v.exp) ∧ w.cell? ⟨n, 3, none⟩ = some (.string ⟨v.text.toArray⟩) ∧ w.cell? ⟨n, 4, none⟩ = some (.bool v.truth) ∧ w.cell? ⟨n, 5, none⟩ = some (.int .i64 v.fault)
def Free (w : World) (n : Nat) : Prop :=
  w.frozen? ⟨n, 0, none⟩ = false ∧ w.frozen? ⟨n, 1, none⟩ = false ∧ w.frozen? ⟨n, 2, none⟩ = false ∧ w.frozen? ⟨n, 3, none⟩ = false ∧ w.frozen? ⟨n, 4, none⟩ = false ∧ w.frozen? ⟨n, 5, none⟩ = false
theorem Box.below {w w' : World} {n B : Nat} {v : Val} (h : Box w n v) (hb : Below B w w') (hn : n < B) : Box w' n v := by
  obtain ⟨h0, h1, h2, h3, h4, h5⟩ := h
  exact ⟨(hb.cell (p := ⟨_, _, none⟩) hn).trans h0, (hb.cell (p := ⟨_, _, none⟩) hn).trans h1, (hb.cell (p := ⟨_, _, none⟩) hn).trans h2, (hb.cell (p := ⟨_, _, none⟩) hn).trans h3, (hb.cell (p := ⟨_, _, none⟩) hn).trans h4, (hb.cell (p := ⟨_, _, none⟩) hn).trans h5⟩
theorem Free.below {w w' : World} {n B : Nat} (h : Free w n) (hb : Below B w w') (hn : n < B) : Free w' n := by
  obtain ⟨h0, h1, h2, h3, h4, h5⟩ := h
  exact ⟨(hb.frozen (p := ⟨_, _, none⟩) hn).trans h0, (hb.frozen (p := ⟨_, _, none⟩) hn).trans h1, (hb.frozen (p := ⟨_, _, none⟩) hn).trans h2, (hb.frozen (p := ⟨_, _, none⟩) hn).trans h3, (hb.frozen (p := ⟨_, _, none⟩) hn).trans h4, (hb.frozen (p := ⟨_, _, none⟩) hn).trans h5⟩
/-- two values in two boxes of the call's own -/
structure TwoVal (w : World) (a b : Val) (w' : World) : Prop where
  big : w.heap.size + 1 < w'.heap.size
  a : Box w' w.heap.size a
  fa : Free w' w.heap.size
  b : Box w' (w.heap.size + 1) b
  fb : Free w' (w.heap.size + 1)
  bel : Below w.heap.size w w'
theorem TwoVal.next {w w' w'' : World} {a b : Val} (h : TwoVal w a b w') (hb : Below w'.heap.size w' w'') : TwoVal w a b w'' := by
  have hs := hb.size
  have hg := h.big
  exact ⟨by omega, h.a.below hb (by omega), h.fa.below hb (by omega), h.b.below hb (by omega), h.fb.below hb (by omega), h.bel.trans (hb.mono h.bel.size)⟩
theorem TwoVal.drew {w w' : World} {a b : Val} (h : TwoVal w a b w') : TwoVal w a b w'.drew := h.next (Below.refl _ _).drew
theorem TwoVal.start (w : World) (a b : Val) : TwoVal w a b ((w.alloc (.cells (valC a) 35)).alloc (.cells (valC b) 35)) :=
  ⟨by simp, by simp [Box, valC], by simp [Free, valC], by simp [Box, valC], by simp [Free, valC], ((Below.refl _ w).alloc (Nat.le_refl _) _).alloc (by simp) _⟩
/-- the six fields stored one by one -/
abbrev put6 (w : World) (n : Nat) (v : Val) : World :=
  (((((w.setCell ⟨n, 0, none⟩ (.int .i64 v.kind)).setCell ⟨n, 1, none⟩ (.int .i64 v.mant)).setCell ⟨n, 2, none⟩ (.int .i64 v.exp)).setCell ⟨n, 3, none⟩ (.string ⟨v.text.toArray⟩)).setCell ⟨n, 4, none⟩ (.bool v.truth)).setCell ⟨n, 5, none⟩ (.int .i64 v.fault)
theorem put6_box {w : World} {n : Nat} {u : Val} (v : Val) (h : Box w n u) : Box (put6 w n v) n v := by
  obtain ⟨h0, h1, h2, h3, h4, h5⟩ := h
  unfold Box put6
  refine ⟨?_, ?_, ?_, ?_, ?_, ?_⟩ <;> simp [go_sem, h0, h1, h2, h3, h4, h5]
theorem put6_free {w : World} {n : Nat} (v : Val) (m : Nat) (h : Free w m) : Free (put6 w n v) m := by
  obtain ⟨h0, h1, h2, h3, h4, h5⟩ := h
  unfold Free put6
  refine ⟨?_, ?_, ?_, ?_, ?_, ?_⟩ <;> simp [go_sem, h0, h1, h2, h3, h4, h5]
theorem put6_below {w w' : World} {n B : Nat} (v : Val) (h : Below B w w') (hn : B ≤ n) : Below B w (put6 w' n v) :=
  (((((h.setCell (p := ⟨n, 0, none⟩) hn _).setCell (p := ⟨n, 1, none⟩) hn _).setCell (p := ⟨n, 2, none⟩) hn _).setCell (p := ⟨n, 3, none⟩) hn _).setCell (p := ⟨n, 4, none⟩) hn _).setCell (p := ⟨n, 5, none⟩) hn _
theorem TwoVal.stored {w w' : World} {a b : Val} (h : TwoVal w a b w') (r s : Val) : TwoVal w r s (put6 (put6 w' w.heap.size r) (w.heap.size + 1) s) := by
  have h1 := put6_below r (Below.refl w.heap.size w') (Nat.le_refl _)
  have h2 := put6_below s (Below.refl (w.heap.size + 1) (put6 w' w.heap.size r)) (Nat.le_refl _)
  have hs1 := h1.size
  have hs2 := h2.size
  have hg := h.big
  refine ⟨by omega, (put6_box r h.a).below h2 (by omega), (put6_free r _ h.fa).below h2 (by omega), ?_, put6_free s _ (put6_free r _ h.fb), h.bel.trans (h1.trans (h2.mono (by omega)))⟩
  refine put6_box (u := b) s ?_
  obtain ⟨h0, h1, h2, h3, h4, h5⟩ := h.b
  unfold Box put6
  refine ⟨?_, ?_, ?_, ?_, ?_, ?_⟩ <;> simp [go_sem, h0, h1, h2, h3, h4, h5]
end Go.Proofs.YtpdaloohgfnbhaaGreatDoor
