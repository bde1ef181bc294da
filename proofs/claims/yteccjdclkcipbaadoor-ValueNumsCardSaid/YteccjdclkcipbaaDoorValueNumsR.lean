/-
  counterpanelaw02.ValueNums: its statement 'x, y := value.Of(a), value.Of(b)', in whatever order, by an invariant.
-/
import Derived.Test.YteccjdclkcipbaaDoorVal8
import Derived.Test.YteccjdclkcipbaaDoorOrd1
namespace Go.Proofs.YteccjdclkcipbaaDoor
open Go.RowKit

theorem TwoNum.set {w w' : World} {m1 e1 m2 e2 : Int} (h : TwoNum w m1 e1 m2 e2 w') {p o : Nat} (hp : w.heap.size + 2 ≤ p) (u : Value) : TwoNum w m1 e1 m2 e2 (w'.setCell ⟨p, o, none⟩ u) := by
  obtain ⟨h1, h2, h3, h4, h5, h6⟩ := h
  have ne : ∀ b k : Nat, b < p → (w'.setCell ⟨p, o, none⟩ u).cell? ⟨b, k, none⟩ = w'.cell? ⟨b, k, none⟩ := fun b k hb => World.cell?_setCell_other w' ⟨p, o, none⟩ ⟨b, k, none⟩ u (fun e => by have := congrArg Addr.block e; simp at this; omega)
  exact ⟨by simpa [World.setCell] using h1, (ne _ _ (by omega)).trans h2, (ne _ _ (by omega)).trans h3, (ne _ _ (by omega)).trans h4, (ne _ _ (by omega)).trans h5, h6.setCell (p := ⟨p, o, none⟩) (by show w.heap.size ≤ p; omega) u⟩
theorem Lies.offV {w : World} {g : Nat} {t : TypeId} {cs : Array Value} (h : Lies w g t cs) {b o : Nat} (hb : g ≠ b) (u : Value) : Lies (w.setCell ⟨b, o, none⟩ u) g t cs :=
  (Below.heap_setCell w ⟨b, o, none⟩ u g hb).trans h
/-- six cells of a value stored one behind the other -/
def store6 (w : World) (p : Nat) (x : Val) : World :=
  (((((w.setCell ⟨p, 0, none⟩ (.int .i64 x.kind)).setCell ⟨p, 1, none⟩ (.int .i64 x.mant)).setCell ⟨p, 2, none⟩ (.int .i64 x.exp)).setCell ⟨p, 3, none⟩ (.string ⟨x.text.toArray⟩)).setCell ⟨p, 4, none⟩ (.bool x.truth)).setCell ⟨p, 5, none⟩ (.int .i64 x.fault)
theorem store6_lies {w : World} {p : Nat} {x : Val} (h : Lies w p 27 (valC zeroVal)) : Lies (store6 w p x) p 27 (valC x) :=
  (((((h.put 0 _).put 1 _).put 2 _).put 3 _).put 4 _).put 5 _
theorem store6_off {w : World} {p q : Nat} {x y : Val} (h : Lies w q 27 (valC y)) (hpq : q ≠ p) : Lies (store6 w p x) q 27 (valC y) :=
  (((((h.offV hpq _).offV hpq _).offV hpq _).offV hpq _).offV hpq _).offV hpq _
theorem store6_two {w w' : World} {m1 e1 m2 e2 : Int} (h : TwoNum w m1 e1 m2 e2 w') {p : Nat} (hp : w.heap.size + 2 ≤ p) (x : Val) : TwoNum w m1 e1 m2 e2 (store6 w' p x) :=
  (((((h.set hp _).set hp _).set hp _).set hp _).set hp _).set hp _
def putN (a : Act) (v25 v26 v27 v28 v5 v6 : Value) : Act := (((((a.put (some 25) v25).put (some 26) v26).put (some 27) v27).put (some 28) v28).put (some 5) v5).put (some 6) v6
section
variable (a : Act) (v25 v26 v27 v28 v5 v6 u : Value)
theorem putN_25 : (putN a v25 v26 v27 v28 v5 v6).put (some 25) u = putN a u v26 v27 v28 v5 v6 := by
  unfold putN
  rw [put_swap (t := 6) (s := 25) _ _ _ (by decide), put_swap (t := 5) (s := 25) _ _ _ (by decide), put_swap (t := 28) (s := 25) _ _ _ (by decide), put_swap (t := 27) (s := 25) _ _ _ (by decide), put_swap (t := 26) (s := 25) _ _ _ (by decide), put_put]
theorem putN_26 : (putN a v25 v26 v27 v28 v5 v6).put (some 26) u = putN a v25 u v27 v28 v5 v6 := by
  unfold putN
  rw [put_swap (t := 6) (s := 26) _ _ _ (by decide), put_swap (t := 5) (s := 26) _ _ _ (by decide), put_swap (t := 28) (s := 26) _ _ _ (by decide), put_swap (t := 27) (s := 26) _ _ _ (by decide), put_put]
theorem putN_27 : (putN a v25 v26 v27 v28 v5 v6).put (some 27) u = putN a v25 v26 u v28 v5 v6 := by
  unfold putN
  rw [put_swap (t := 6) (s := 27) _ _ _ (by decide), put_swap (t := 5) (s := 27) _ _ _ (by decide), put_swap (t := 28) (s := 27) _ _ _ (by decide), put_put]
theorem putN_28 : (putN a v25 v26 v27 v28 v5 v6).put (some 28) u = putN a v25 v26 v27 u v5 v6 := by
  unfold putN
  rw [put_swap (t := 6) (s := 28) _ _ _ (by decide), put_swap (t := 5) (s := 28) _ _ _ (by decide), put_put]
theorem putN_5 : (putN a v25 v26 v27 v28 v5 v6).put (some 5) u = putN a v25 v26 v27 v28 u v6 := by
  unfold putN
  rw [put_swap (t := 6) (s := 5) _ _ _ (by decide), put_put]
theorem putN_6 : (putN a v25 v26 v27 v28 v5 v6).put (some 6) u = putN a v25 v26 v27 v28 v5 u := by
  unfold putN
  rw [put_put]
variable (hs : 28 < a.tmps.size)
include hs
theorem ev25 : (putN a v25 v26 v27 v28 v5 v6).eval (.tmp 25) = v25 := by
  unfold putN
  rw [eval_put_ne _ _ (by decide), eval_put_ne _ _ (by decide), eval_put_ne _ _ (by decide), eval_put_ne _ _ (by decide), eval_put_ne _ _ (by decide), eval_put_eq _ _ (by omega)]
theorem ev26 : (putN a v25 v26 v27 v28 v5 v6).eval (.tmp 26) = v26 := by
  unfold putN
  rw [eval_put_ne _ _ (by decide), eval_put_ne _ _ (by decide), eval_put_ne _ _ (by decide), eval_put_ne _ _ (by decide), eval_put_eq _ _ (by simp only [size_put]; omega)]
theorem ev27 : (putN a v25 v26 v27 v28 v5 v6).eval (.tmp 27) = v27 := by
  unfold putN
  rw [eval_put_ne _ _ (by decide), eval_put_ne _ _ (by decide), eval_put_ne _ _ (by decide), eval_put_eq _ _ (by simp only [size_put]; omega)]
theorem ev28 : (putN a v25 v26 v27 v28 v5 v6).eval (.tmp 28) = v28 := by
  unfold putN
  rw [eval_put_ne _ _ (by decide), eval_put_ne _ _ (by decide), eval_put_eq _ _ (by simp only [size_put]; omega)]
theorem ev5 : (putN a v25 v26 v27 v28 v5 v6).eval (.tmp 5) = v5 := by
  unfold putN
  rw [eval_put_ne _ _ (by decide), eval_put_eq _ _ (by simp only [size_put]; omega)]
theorem ev6 : (putN a v25 v26 v27 v28 v5 v6).eval (.tmp 6) = v6 := by
  unfold putN
  rw [eval_put_eq _ _ (by simp only [size_put]; omega)]
end
theorem ev_other (a : Act) (v25 v26 v27 v28 v5 v6 : Value) (t : Nat) (h : t = 2 ∨ t = 3) : (putN a v25 v26 v27 v28 v5 v6).eval (.tmp t) = a.eval (.tmp t) := by
  unfold putN
  rw [eval_put_ne _ _ (by omega), eval_put_ne _ _ (by omega), eval_put_ne _ _ (by omega), eval_put_ne _ _ (by omega), eval_put_ne _ _ (by omega), eval_put_ne _ _ (by omega)]
theorem putN_self (a : Act) : ∃ v25 v26 v27 v28 v5 v6, a = putN a v25 v26 v27 v28 v5 v6 := by
  refine ⟨a.tmps.getD 25 undef, a.tmps.getD 26 undef, a.tmps.getD 27 undef, a.tmps.getD 28 undef, a.tmps.getD 5 undef, a.tmps.getD 6 undef, ?_⟩
  unfold putN
  rw [put_self, put_self, put_self, put_self, put_self, put_self]
/-- a box: made, and, if so, filled -/
def BoxAt (w0 w : World) (made filled : Prop) (v : Value) (x : Val) : Prop := made → ∃ p, v = .pointer (some ⟨p, 0, none⟩) ∧ w0.heap.size + 2 ≤ p ∧ ((filled ∧ Lies w p 27 (valC x)) ∨ (¬ filled ∧ Lies w p 27 (valC zeroVal)))
structure NI (w0 : World) (m1 e1 m2 e2 : Int) (x y : Val) (a0 : Act) (listed : Array Bool) (a : Act) (w : World) : Prop where
  ex : ∃ v25 v26 v27 v28 v5 v6, a = putN a0 v25 v26 v27 v28 v5 v6 ∧ TwoNum w0 m1 e1 m2 e2 w ∧ (Up listed 0 → v25 = numV m1 e1) ∧ (Up listed 1 → v26 = valV x) ∧ (Up listed 2 → v27 = numV m2 e2) ∧ (Up listed 3 → v28 = valV y) ∧
    BoxAt w0 w (Up listed 4) (Up listed 6) v5 x ∧ BoxAt w0 w (Up listed 5) (Up listed 7) v6 y ∧ (Up listed 4 → Up listed 5 → v5 ≠ v6) ∧ (Up listed 6 → Up listed 4) ∧ (Up listed 7 → Up listed 5)
theorem NI.start (w0 : World) (m1 e1 m2 e2 : Int) (x y : Val) (a : Act) (n : Nat) (w : World) (h : TwoNum w0 m1 e1 m2 e2 w) : NI w0 m1 e1 m2 e2 x y a (Array.replicate n false) a w := by
  obtain ⟨v25, v26, v27, v28, v5, v6, ha⟩ := putN_self a
  exact ⟨v25, v26, v27, v28, v5, v6, ha, h, fun h => absurd h (Up.none _ _), fun h => absurd h (Up.none _ _), fun h => absurd h (Up.none _ _), fun h => absurd h (Up.none _ _), fun h => absurd h (Up.none _ _), fun h => absurd h (Up.none _ _), fun h => absurd h (Up.none _ _), fun h => absurd h (Up.none _ _), fun h => absurd h (Up.none _ _)⟩
theorem BoxAt.next {w0 w w' : World} {A B : Prop} {v : Value} {x : Val} (h : BoxAt w0 w A B v x) (hb : Below w.heap.size w w') : BoxAt w0 w' A B v x := by
  intro ha
  obtain ⟨p, h1, h2, h3⟩ := h ha
  refine ⟨p, h1, h2, ?_⟩
  rcases h3 with ⟨h3, h4⟩ | ⟨h3, h4⟩
  · exact .inl ⟨h3, Lies.next h4 hb⟩
  · exact .inr ⟨h3, Lies.next h4 hb⟩
theorem BoxAt.cong {w0 w : World} {A B A' B' : Prop} {v : Value} {x : Val} (h : BoxAt w0 w A B v x) (hA : A' ↔ A) (hB : B' ↔ B) : BoxAt w0 w A' B' v x := by
  intro ha
  obtain ⟨p, h1, h2, h3⟩ := h (hA.1 ha)
  refine ⟨p, h1, h2, ?_⟩
  rcases h3 with ⟨h3, h4⟩ | ⟨h3, h4⟩
  · exact .inl ⟨hB.2 h3, h4⟩
  · exact .inr ⟨fun e => h3 (hB.1 e), h4⟩
theorem run_load_num {w : World} {b : Nat} {m e : Int} (h0 : w.cell? ⟨b, 0, none⟩ = some (.int .i64 m)) (h1 : w.cell? ⟨b, 1, none⟩ = some (.int .i64 e)) : (Instr.loadAt 23 (.pointer (some ⟨b, 0, none⟩))).run Tryd.prog w = .ok (numV m e) w := by
  simp [go_sem, h0, h1]
theorem run_alloc_val (w : World) : (Instr.alloc 27 true (.tuple #[])).run Tryd.prog w = .ok (.pointer (some ⟨w.heap.size, 0, none⟩)) (w.alloc (.cells (valC zeroVal) 27)) := by
  simp [go_sem, valC, zeroVal]
theorem run_store_val {w : World} {p : Nat} {x : Val} (h : Lies w p 27 (valC zeroVal)) : (Instr.storeAt 27 (.pointer (some ⟨p, 0, none⟩)) (valV x)).run Tryd.prog w = .ok () (store6 w p x) := by
  have c0 := h.cell 0
  have c1 := h.cell 1
  have c2 := h.cell 2
  have c3 := h.cell 3
  have c4 := h.cell 4
  have c5 := h.cell 5
  have f0 := h.frozen 0
  have f1 := h.frozen 1
  have f2 := h.frozen 2
  have f3 := h.frozen 3
  have f4 := h.frozen 4
  have f5 := h.frozen 5
  simp [valC, zeroVal] at c0 c1 c2 c3 c4 c5
  simp [go_sem, store6, c0, c1, c2, c3, c4, c5, f0, f1, f2, f3, f4, f5]
end Go.Proofs.YteccjdclkcipbaaDoor
