/-
  num.Neg of a right number: what it returns.
-/
import Derived.Test.YteccjdclkcipbaaDoorNum1
import Derived.Test.YteccjdclkcipbaaDoorRefA3
import Derived.Test.YteccjdclkcipbaaDoorNum4
namespace Go.Proofs.YteccjdclkcipbaaDoor
open Go.RowKit

theorem Lies.below {w w' : World} {g : Nat} {t : TypeId} {cs : Array Value} (h : Lies w g t cs) (hb : Below w.heap.size w w') : Lies w' g t cs := (hb.block g h.lt).trans h
set_option maxRecDepth 100000 in
set_option maxHeartbeats 1600000 in
theorem neg_right (m e : Int) (w : World) (h1 : -9223372036854775808 < m) (h2 : m ≤ 9223372036854775807) (hR : pRight m e = true) :
    Calls Tryd.prog 90 #[numV m e] w fun x w' => x = .returned (numV (-m) e) ∧ Below w.heap.size w w' := by
  have C := Lib.hid (fun W => right_any m e W (by omega) h2)
  rw [hR] at C
  have HB : Hid (Below w.heap.size w ((w.alloc (.cells #[.int .i64 m, .int .i64 e] 23)).alloc (.cells #[.int .i64 0, .int .i64 0] 23))) := Lib.hid (((Below.refl _ w).alloc (Nat.le_refl _) _).alloc (by simp) _)
  have T0 : Hid (NumIn w m e ((w.alloc (.cells #[.int .i64 m, .int .i64 e] 23)).alloc (.cells #[.int .i64 0, .int .i64 0] 23))) := Lib.hid ((NumIn.start w m e).next ((Below.refl _ _).alloc (Nat.le_refl _) _))
  have HL : Hid (Lies ((w.alloc (.cells #[.int .i64 m, .int .i64 e] 23)).alloc (.cells #[.int .i64 0, .int .i64 0] 23)) (w.heap.size + 1) 23 #[.int .i64 0, .int .i64 0]) := Lib.hid (by have := Lies.new (w.alloc (.cells #[.int .i64 m, .int .i64 e] 23)) 23 #[.int .i64 0, .int .i64 0]; simpa using this)
  clear hR
  go_enter Tryd.func90, Tryd.ntmps90
  go_wp2_with fail
  refine (C.out _).mono ?_
  rintro x w1 ⟨rfl, hb⟩
  have HL1 := Lib.hid (Lies.below HL.out hb)
  have T1 := Lib.hid (T0.out.next hb)
  clear hb HB HL T0 C
  obtain ⟨g0, g1, g2, g3⟩ := T1.out
  have q0 := HL1.out.cell 0
  have q1 := HL1.out.cell 1
  have f0 := HL1.out.frozen 0
  have f1 := HL1.out.frozen 1
  have hlt := HL1.out.lt
  have HB1 := Lib.hid g3
  simp only [List.getElem?_toArray, List.getElem?_cons_zero, List.getElem?_cons_succ] at q0 q1
  go_wp2_with fail
  refine bodyPost_ret (v := .agg #[.int .i64 (-m), .int .i64 e]) (by simp [results, Tryd.results90, go_sem, q0, q1]) rfl ?_
  exact ⟨rfl, ((HB1.out.setCell (p := ⟨w.heap.size + 1, 0, none⟩) (Nat.le_succ _) _).setCell (p := ⟨w.heap.size + 1, 1, none⟩) (Nat.le_succ _) _)⟩
end Go.Proofs.YteccjdclkcipbaaDoor
