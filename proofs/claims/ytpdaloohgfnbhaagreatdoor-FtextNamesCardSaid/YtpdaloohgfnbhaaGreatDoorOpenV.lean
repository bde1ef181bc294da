/-
  An argument that is an api.Value, or an api.Num, opened to its fields.
-/
import Derived.Test.YtpdaloohgfnbhaaGreatDoorVal4
import Derived.Test.YtpdaloohgfnbhaaGreatDoorCards
import Derived.ProofKit
import Derived.OpenShut
import Derived.ShutString
import Derived.Deep.DeepHandedRow
namespace Go.Proofs.YtpdaloohgfnbhaaGreatDoor
open Go.ChangeShapes Go.WideShapes Go.ChangeAt Go.RowKit

theorem cellsInt : Tryz.prog.cellsOf 3 = 1 := by kernel_rfl
theorem cellsStr : Tryz.prog.cellsOf 9 = 1 := by kernel_rfl
theorem cellsBool : Tryz.prog.cellsOf 4 = 1 := by kernel_rfl
theorem cellsNum : Tryz.prog.cellsOf 33 = 2 := by kernel_rfl
theorem cellsVal : Tryz.prog.cellsOf 35 = 6 := by kernel_rfl
section
variable {H : Type} {enc : TypeId × Value → H} {w : World} {base : Nat} {sp : Nat → Bool} {held : Bool}
set_option maxRecDepth 100000 in
theorem trod_num {n : Nat} {c1 c2 : Value} {x : DataW H × List MemPlace} (h : DataW.trod enc Tryz.prog w base sp held n 33 [c1, c2] = some x) :
    ∃ m e : Int, c1 = .int .i64 m ∧ c2 = .int .i64 e ∧ x.2 = [] ∧ -9223372036854775808 ≤ m ∧ m ≤ 9223372036854775807 ∧ -9223372036854775808 ≤ e ∧ e ≤ 9223372036854775807 := by
  obtain ⟨xs, k, _, hx, _, hlen, hg⟩ := DataW.trod_struct Tryz.underlying33 h
  match xs, hlen with
  | [y0, y1], _ =>
    have g0 : DataW.trod enc Tryz.prog w base sp held k 3 [c1] = some y0 := by have := hg 0 _ rfl; simpa [cellsInt] using this
    have g1 : DataW.trod enc Tryz.prog w base sp held k 3 [c2] = some y1 := by have := hg 1 _ rfl; simpa [cellsInt] using this
    obtain ⟨m, e0, rfl, w0⟩ := DataW.trod_int Tryz.underlying3 g0
    obtain ⟨e, e1, rfl, w1⟩ := DataW.trod_int Tryz.underlying3 g1
    injection e0 with e0
    injection e1 with e1
    obtain ⟨a1, a2⟩ := bounds_i64 w0
    obtain ⟨a3, a4⟩ := bounds_i64 w1
    exact ⟨m, e, e0, e1, by rw [hx]; rfl, a1, a2, a3, a4⟩
set_option maxRecDepth 100000 in
theorem open_num {r : Reach} {b0 : Nat} {v : Value} {d : DataW H} {p : List MemPlace} (hv : Value.okWide Tryz.prog w r b0 33 v) (h : DataW.Trod enc Tryz.prog w base sp held 33 v d p) :
    ∃ m e : Int, v = numV m e ∧ p = [] ∧ -9223372036854775808 ≤ m ∧ m ≤ 9223372036854775807 ∧ -9223372036854775808 ≤ e ∧ e ≤ 9223372036854775807 := by
  obtain ⟨cs, rfl, hsz⟩ := okWide_struct Tryz.underlying33 hv
  obtain ⟨l⟩ := cs
  match l, hsz.trans cellsNum with
  | [c0, c1], _ =>
    obtain ⟨fuel, hf⟩ := h
    obtain ⟨m, e, rfl, rfl, hx, a1, a2, a3, a4⟩ := trod_num (by simpa [Value.cells] using hf)
    exact ⟨m, e, rfl, hx, a1, a2, a3, a4⟩
set_option maxRecDepth 100000 in
theorem open_value {r : Reach} {b0 : Nat} {v : Value} {d : DataW H} {p : List MemPlace} (hv : Value.okWide Tryz.prog w r b0 35 v) (h : DataW.Trod enc Tryz.prog w base sp held 35 v d p) :
    ∃ a : Val, v = valV a ∧ p = [] ∧ -9223372036854775808 ≤ a.mant ∧ a.mant ≤ 9223372036854775807 ∧ a.text.length ≤ maxLen ∧ -9223372036854775808 ≤ a.exp ∧ a.exp ≤ 9223372036854775807 ∧ -9223372036854775808 ≤ a.kind ∧ a.kind ≤ 9223372036854775807 ∧ -9223372036854775808 ≤ a.fault ∧ a.fault ≤ 9223372036854775807 := by
  obtain ⟨cs, rfl, hsz⟩ := okWide_struct Tryz.underlying35 hv
  obtain ⟨l⟩ := cs
  match l, hsz.trans cellsVal with
  | [c0, c1, c2, c3, c4, c5], _ =>
    obtain ⟨fuel, hf⟩ := h
    have hf' : DataW.trod enc Tryz.prog w base sp held fuel 35 [c0, c1, c2, c3, c4, c5] = some (d, p) := by simpa [Value.cells] using hf
    obtain ⟨xs, n, _, hx, _, hlen, hg⟩ := DataW.trod_struct Tryz.underlying35 hf'
    match xs, hlen with
    | [y0, y1, y2, y3, y4], _ =>
      have g0 : DataW.trod enc Tryz.prog w base sp held n 3 [c0] = some y0 := by have := hg 0 _ rfl; simpa [cellsInt] using this
      have g1 : DataW.trod enc Tryz.prog w base sp held n 33 [c1, c2] = some y1 := by have := hg 1 _ rfl; simpa [cellsNum] using this
      have g2 : DataW.trod enc Tryz.prog w base sp held n 9 [c3] = some y2 := by have := hg 2 _ rfl; simpa [cellsStr] using this
      have g3 : DataW.trod enc Tryz.prog w base sp held n 4 [c4] = some y3 := by have := hg 3 _ rfl; simpa [cellsBool] using this
      have g4 : DataW.trod enc Tryz.prog w base sp held n 3 [c5] = some y4 := by have := hg 4 _ rfl; simpa [cellsInt] using this
      obtain ⟨k, e0, rfl, w0⟩ := DataW.trod_int Tryz.underlying3 g0
      obtain ⟨m, e, rfl, rfl, x1, a1, a2, a3, a4⟩ := trod_num g1
      obtain ⟨s, e2, rfl, w2⟩ := DataW.trod_string Tryz.underlying9 g2
      obtain ⟨b, e3, rfl⟩ := DataW.trod_bool Tryz.underlying4 g3
      obtain ⟨f, e4, rfl, w4⟩ := DataW.trod_int Tryz.underlying3 g4
      injection e0 with e0
      injection e2 with e2
      injection e3 with e3
      injection e4 with e4
      subst e0 e2 e3 e4
      obtain ⟨q1, q2⟩ := bounds_i64 w0
      obtain ⟨q3, q4⟩ := bounds_i64 w4
      refine ⟨⟨k, m, e, s.data.toList, b, f⟩, rfl, ?_, a1, a2, by simpa using w2, a3, a4, q1, q2, q3, q4⟩
      injection hx with _ hx
      rw [hx]
      simp [x1]
end
end Go.Proofs.YtpdaloohgfnbhaaGreatDoor
