/-
  An argument that is an array of values: how it reads.
-/
import Derived.Test.YteccjdclkcipbaaGreatDoorOpenV
import Derived.Test.YteccjdclkcipbaaGreatDoorCsv9
import Derived.Deep.Slices
namespace Go.Proofs.YteccjdclkcipbaaGreatDoor
open Go.ChangeShapes Go.WideShapes Go.ChangeAt Go.RowKit

theorem cellsArr : Tryz.prog.cellsOf 24 = 3 := by kernel_rfl
theorem cellsVals : Tryz.prog.cellsOf 22 = 1 := by kernel_rfl
section
variable {H : Type} {enc : TypeId × Value → H} {W : World}
set_option maxRecDepth 100000 in
theorem trod_value {n : Nat} {c0 c1 c2 c3 c4 c5 : Value} {x : DataW H × List MemPlace} (h : DataW.trod enc Tryz.prog W 0 (fun _ => true) true n 38 [c0, c1, c2, c3, c4, c5] = some x) :
    ∃ a : Val, (c0 = .int .i64 a.kind ∧ c1 = .int .i64 a.mant ∧ c2 = .int .i64 a.exp ∧ c3 = .string ⟨a.text.toArray⟩ ∧ c4 = .bool a.truth ∧ c5 = .int .i64 a.fault) ∧ -9223372036854775808 ≤ a.mant ∧ a.mant ≤ 9223372036854775807 := by
  obtain ⟨xs, n, _, hx, _, hlen, hg⟩ := DataW.trod_struct Tryz.underlying38 h
  match xs, hlen with
  | [y0, y1, y2, y3, y4], _ =>
    have g0 : DataW.trod enc Tryz.prog W 0 (fun _ => true) true n 3 [c0] = some y0 := by have := hg 0 _ rfl; simpa [cellsInt] using this
    have g1 : DataW.trod enc Tryz.prog W 0 (fun _ => true) true n 36 [c1, c2] = some y1 := by have := hg 1 _ rfl; simpa [cellsNum] using this
    have g2 : DataW.trod enc Tryz.prog W 0 (fun _ => true) true n 9 [c3] = some y2 := by have := hg 2 _ rfl; simpa [cellsStr] using this
    have g3 : DataW.trod enc Tryz.prog W 0 (fun _ => true) true n 4 [c4] = some y3 := by have := hg 3 _ rfl; simpa [cellsBool] using this
    have g4 : DataW.trod enc Tryz.prog W 0 (fun _ => true) true n 3 [c5] = some y4 := by have := hg 4 _ rfl; simpa [cellsInt] using this
    obtain ⟨k, e0, rfl, w0⟩ := DataW.trod_int Tryz.underlying3 g0
    obtain ⟨m, e, rfl, rfl, x1, a1, a2, a3, a4⟩ := trod_num g1
    obtain ⟨s, e2, rfl, w2⟩ := DataW.trod_string Tryz.underlying9 g2
    obtain ⟨b, e3, rfl⟩ := DataW.trod_bool Tryz.underlying4 g3
    obtain ⟨f, e4, rfl, w4⟩ := DataW.trod_int Tryz.underlying3 g4
    injection e0 with e0
    injection e2 with e2
    injection e3 with e3
    injection e4 with e4
    subst e0 e2 e3 e4
    exact ⟨⟨k, m, e, s.data.toList, b, f⟩, ⟨rfl, rfl, rfl, by simp, rfl, rfl⟩, a1, a2⟩
set_option maxRecDepth 100000 in
theorem in_vals {n : Nat} {c : Value} {y : DataW H × List MemPlace} (hf : DataW.trod enc Tryz.prog W 0 (fun _ => true) true n 22 [c] = some y) :
    ∃ (A : Option Addr) (cap : Nat) (vs : List Val), c = .slice A vs.length cap ∧ vs.length ≤ cap ∧ VSl W A vs ∧ ∀ v ∈ vs, -9223372036854775808 ≤ v.mant ∧ v.mant ≤ 9223372036854775807 := by
  rcases Go.Deep.open_slice Tryz.underlying22 hf with ⟨hcs, _⟩ | ⟨x, len, c', m, n, D, Pl, hcs, hb, hl, hm, hmm, hx, hi⟩
  · injection hcs with hcs _
    subst hcs
    exact ⟨none, 0, [], rfl, Nat.le_refl _, fun h0 => by simp at h0, fun t ht => by simp at ht⟩
  · injection hcs with hcs _
    subst hcs
    rw [if_pos rfl] at hmm
    subst hmm
    rw [cellsVal] at hi
    obtain ⟨g, o, spot⟩ := x
    have key : ∀ i, i < len → ∃ t : Val, (W.cell? ((⟨g, o, spot⟩ : Addr).add (i * 6)) = some (.int .i64 t.kind) ∧ W.cell? (((⟨g, o, spot⟩ : Addr).add (i * 6)).add 1) = some (.int .i64 t.mant) ∧ W.cell? (((⟨g, o, spot⟩ : Addr).add (i * 6)).add 2) = some (.int .i64 t.exp) ∧ W.cell? (((⟨g, o, spot⟩ : Addr).add (i * 6)).add 3) = some (.string ⟨t.text.toArray⟩) ∧ W.cell? (((⟨g, o, spot⟩ : Addr).add (i * 6)).add 4) = some (.bool t.truth) ∧ W.cell? (((⟨g, o, spot⟩ : Addr).add (i * 6)).add 5) = some (.int .i64 t.fault)) ∧ -9223372036854775808 ≤ t.mant ∧ t.mant ≤ 9223372036854775807 := by
      intro i hil
      obtain ⟨cs', hc, ht'⟩ := hi i (by omega)
      obtain ⟨_, hcl, hat⟩ := World.cells?_some hc
      match cs', hcl with
      | [c0, c1, c2, c3, c4, c5], _ =>
        obtain ⟨t, ⟨e0, e1, e2, e3, e4, e5⟩, b1, b2⟩ := trod_value ht'
        have h0 := hat 0 (by omega)
        have h1 := hat 1 (by omega)
        have h2 := hat 2 (by omega)
        have h3 := hat 3 (by omega)
        have h4 := hat 4 (by omega)
        have h5 := hat 5 (by omega)
        simp only [List.getElem?_cons_zero, List.getElem?_cons_succ] at h0 h1 h2 h3 h4 h5
        refine ⟨t, ⟨?_, ?_, ?_, ?_, ?_, ?_⟩, b1, b2⟩
        · rw [← e0, ← h0]; simp [Addr.add]
        · rw [← e1, ← h1]
        · rw [← e2, ← h2]
        · rw [← e3, ← h3]
        · rw [← e4, ← h4]
        · rw [← e5, ← h5]
    obtain ⟨f, hf2⟩ : ∃ f : Nat → Val, ∀ i (hil : i < len), (W.cell? ((⟨g, o, spot⟩ : Addr).add (i * 6)) = some (.int .i64 (f i).kind) ∧ W.cell? (((⟨g, o, spot⟩ : Addr).add (i * 6)).add 1) = some (.int .i64 (f i).mant) ∧ W.cell? (((⟨g, o, spot⟩ : Addr).add (i * 6)).add 2) = some (.int .i64 (f i).exp) ∧ W.cell? (((⟨g, o, spot⟩ : Addr).add (i * 6)).add 3) = some (.string ⟨(f i).text.toArray⟩) ∧ W.cell? (((⟨g, o, spot⟩ : Addr).add (i * 6)).add 4) = some (.bool (f i).truth) ∧ W.cell? (((⟨g, o, spot⟩ : Addr).add (i * 6)).add 5) = some (.int .i64 (f i).fault)) ∧ -9223372036854775808 ≤ (f i).mant ∧ (f i).mant ≤ 9223372036854775807 :=
      ⟨fun i => if h : i < len then Classical.choose (key i h) else ⟨0, 0, 0, [], false, 0⟩, fun i hil => by
        have := Classical.choose_spec (key i hil)
        simp only [dif_pos hil]
        exact this⟩
    refine ⟨some ⟨g, o, spot⟩, m, (List.range len).map f, by simp, by simpa using hl, fun h0 => ?_, fun t ht => ?_⟩
    · have h0' : 0 < len := by simpa using h0
      have hsp : spot = none := by
        have := (hf2 0 h0').1.1
        simpa [Addr.add] using World.cell?_spot this
      subst hsp
      have hadd : ∀ k j : Nat, (⟨g, k, none⟩ : Addr).add j = ⟨g, k + j, none⟩ := fun k j => by
        unfold Addr.add
        by_cases e : j = 0
        · simp [e]
        · simp [e]
      refine ⟨g, o, rfl, ?_, fun j hj => ?_⟩
      · have := (hf2 0 h0').1.1
        rw [hadd] at this
        exact cell_lt this
      · have hj' : j < len := by simpa using hj
        obtain ⟨h1, h2, h3, h4, h5, h6⟩ := (hf2 j hj').1
        rw [hadd, hadd] at h2 h3 h4 h5 h6
        rw [hadd] at h1
        simp only [List.getElem_map, List.getElem_range]
        exact ⟨h1, h2, h3, h4, h5, h6⟩
    · obtain ⟨i, hi, rfl⟩ := List.mem_map.1 ht
      exact (hf2 i (List.mem_range.1 hi)).2
set_option maxRecDepth 100000 in
theorem open_array {r : Reach} {b0 : Nat} {v : Value} {d : DataW H} {p : List MemPlace} (hv : Value.okWide Tryz.prog W r b0 24 v) (h : DataW.Trod enc Tryz.prog W 0 (fun _ => true) true 24 v d p) :
    ∃ (rr cc : Int) (A : Option Addr) (cap : Nat) (vs : List Val), v = .agg #[.int .i64 rr, .int .i64 cc, .slice A vs.length cap] ∧ -9223372036854775808 ≤ rr ∧ rr ≤ 9223372036854775807 ∧ -9223372036854775808 ≤ cc ∧ cc ≤ 9223372036854775807 ∧ vs.length ≤ cap ∧ VSl W A vs ∧ ∀ v ∈ vs, -9223372036854775808 ≤ v.mant ∧ v.mant ≤ 9223372036854775807 := by
  obtain ⟨cs, rfl, hsz⟩ := okWide_struct Tryz.underlying24 hv
  obtain ⟨l⟩ := cs
  match l, hsz.trans cellsArr with
  | [c0, c1, c2], _ =>
    obtain ⟨fuel, hf⟩ := h
    have hf' : DataW.trod enc Tryz.prog W 0 (fun _ => true) true fuel 24 [c0, c1, c2] = some (d, p) := by simpa [Value.cells] using hf
    obtain ⟨xs, n, _, hx, _, hlen, hg⟩ := DataW.trod_struct Tryz.underlying24 hf'
    match xs, hlen with
    | [y0, y1, y2], _ =>
      have g0 : DataW.trod enc Tryz.prog W 0 (fun _ => true) true n 3 [c0] = some y0 := by have := hg 0 _ rfl; simpa [cellsInt] using this
      have g1 : DataW.trod enc Tryz.prog W 0 (fun _ => true) true n 3 [c1] = some y1 := by have := hg 1 _ rfl; simpa [cellsInt] using this
      have g2 : DataW.trod enc Tryz.prog W 0 (fun _ => true) true n 22 [c2] = some y2 := by have := hg 2 _ rfl; simpa [cellsInt, cellsVals] using this
      obtain ⟨k, e0, rfl, w0⟩ := DataW.trod_int Tryz.underlying3 g0
      obtain ⟨m, e1, rfl, w1⟩ := DataW.trod_int Tryz.underlying3 g1
      injection e0 with e0
      injection e1 with e1
      subst e0 e1
      obtain ⟨q1, q2⟩ := bounds_i64 w0
      obtain ⟨q3, q4⟩ := bounds_i64 w1
      obtain ⟨A, cap, vs, rfl, hv0, hv1, hv2⟩ := in_vals g2
      exact ⟨k, m, A, cap, vs, rfl, q1, q2, q3, q4, hv0, hv1, hv2⟩
end
end Go.Proofs.YteccjdclkcipbaaGreatDoor
