/-
  counterpaneref01.run, power, Parse: what they return.
-/
import Derived.Test.YtpdaloohgfnbhaaGreatDoorKit
import Derived.Test.YtpdaloohgfnbhaaGreatDoorPlainW
import Derived.Test.YtpdaloohgfnbhaaGreatDoorRefA6
namespace Go.Proofs.YtpdaloohgfnbhaaGreatDoor
open Go.RowKit

def powOut (p : Option (Bool × List Nat)) : Value := match p with | none => .tuple #[.int .i64 0, .bool false] | some q => .tuple #[.int .i64 (if q.1 then -(powR q.2 : Int) else powR q.2), .bool true]
theorem powR_snoc (L : List Nat) (d : Nat) : powR (L ++ [d]) = rStep (powR L) d := by unfold powR; rw [List.foldl_append]; rfl
/-- what Parse holds on its way: the result's block, the decimal's, its digits from there on -/
structure PS (w : World) (neg : Bool) (v : Value) (D : List Nat) (wr : World) : Prop where
  res : Lies wr w.heap.size 33 #[.int .i64 0, .int .i64 0]
  box : Lies wr (w.heap.size + 1) 59 #[.bool neg, v, .int .i64 0]
  own : wr.ownsRow (w.heap.size + 2) 3 1 v D.length (D.map intV)
  bel : Below w.heap.size w wr
  big : w.heap.size + 2 ≤ wr.heap.size
theorem PS.start (w : World) (ng : Bool) : PS w ng (.slice none 0 0) [] ((w.alloc (.cells #[.int .i64 0, .int .i64 0] 33)).alloc (.cells #[.bool ng, .slice none 0 0, .int .i64 0] 59)) := by
  refine ⟨(Lies.new _ _ _).alloc _, ?_, ⟨rfl, .inl ⟨rfl, rfl⟩⟩, ((Below.refl _ w).alloc (Nat.le_refl _) _).alloc (by simp) _, by simp⟩
  have := Lies.new (w.alloc (.cells #[.int .i64 0, .int .i64 0] 33)) 59 #[.bool ng, .slice none 0 0, .int .i64 0]
  simpa using this
/-- a digit more -/
theorem PS.more {w wr w1 : World} {ng : Bool} {v : Value} {D : List Nat} {d g cap : Nat} (h : PS w ng v D wr) (h1 : w1.ownsRow (w.heap.size + 2) 3 1 (.slice (some ⟨g, 0, none⟩) (D.length + 1) cap) (D.length + 1) (D.map intV ++ [intV d]))
    (hg : ((wr.alloc (.cells #[intV d] 3)).drew).grownBy w1 v.ownBlock) : Lies w1 (w.heap.size + 1) 59 #[.bool ng, v, .int .i64 0] ∧ PS w ng (.slice (some ⟨g, 0, none⟩) (D.length + 1) cap) (D ++ [d]) (w1.setCell ⟨w.heap.size + 1, 1, none⟩ (.slice (some ⟨g, 0, none⟩) (D.length + 1) cap)) := by
  have hrow := own_ge h.own
  have hb1 : Below (w.heap.size + 2) wr w1 := (((Below.refl _ wr).alloc h.big _).drew).grown hg (by have := h.big; simp; omega) hrow
  have hbox : Lies w1 (w.heap.size + 1) 59 #[.bool ng, v, .int .i64 0] := (hb1.block _ (by omega)).trans h.box
  refine ⟨hbox, (Below.heap_setCell _ _ _ _ (by show w.heap.size ≠ w.heap.size + 1; omega)).trans ((hb1.block _ (by omega)).trans h.res), hbox.put 1 _, ?_, ?_, ?_⟩
  · have := ownsRow_setCell_below h1 (a := ⟨w.heap.size + 1, 1, none⟩) (by show w.heap.size + 1 < w.heap.size + 2; omega) (.slice (some ⟨g, 0, none⟩) (D.length + 1) cap)
    simpa using this
  · exact (h.bel.trans (hb1.mono (by omega))).setCell (p := ⟨w.heap.size + 1, 1, none⟩) (by show w.heap.size ≤ w.heap.size + 1; omega) _
  · have := hb1.size
    have := h.big
    simp
    omega
end Go.Proofs.YtpdaloohgfnbhaaGreatDoor
