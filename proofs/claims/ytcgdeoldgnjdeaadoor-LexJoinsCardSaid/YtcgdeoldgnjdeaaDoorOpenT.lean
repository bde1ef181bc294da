/-
  An argument that is a slice of the reference's tokens: how it reads.
-/
import Derived.Test.YtcgdeoldgnjdeaaDoorJoin2
import Derived.Test.YtcgdeoldgnjdeaaDoorCards
import Derived.ProofKit
import Derived.OpenShut
import Derived.ShutString
import Derived.Deep.DeepHandedRow
import Derived.Deep.Slices
import Derived.SizedLaws
namespace Go.Proofs.YtcgdeoldgnjdeaaDoor
open Go.ChangeShapes Go.WideShapes Go.ChangeAt Go.RowKit

theorem weightsAll_mem {H : Type} {P : Program} {e : TypeId} {d : DataW H} {n : Nat} : ∀ {l : List (DataW H)}, d ∈ l → n ∈ d.weights P e → n ∈ DataW.weightsAll P e l
  | [], h, _ => by simp at h
  | x :: l, h, hn => by
    simp only [DataW.weightsAll, List.mem_append]
    rcases List.mem_cons.1 h with rfl | h
    · exact .inl hn
    · exact .inr (weightsAll_mem h hn)
theorem cellsIntT : Tryd.prog.cellsOf 3 = 1 := by kernel_rfl
theorem cellsStrT : Tryd.prog.cellsOf 9 = 1 := by kernel_rfl
theorem cellsTok : Tryd.prog.cellsOf 54 = 3 := by kernel_rfl
section
variable {H : Type} {enc : TypeId × Value → H} {W : World}
set_option maxRecDepth 100000 in
theorem trod_tok {n : Nat} {c0 c1 c2 : Value} {x : DataW H × List MemPlace} (h : DataW.trod enc Tryd.prog W 0 (fun _ => true) true n 54 [c0, c1, c2] = some x) :
    ∃ t : RTok, c0 = .int .i64 t.kind ∧ c1 = .string ⟨t.text.toArray⟩ ∧ c2 = .int .i64 t.place ∧ t.text.length ∈ x.1.weights Tryd.prog 54 := by
  obtain ⟨xs, k, _, hx, _, hlen, hg⟩ := DataW.trod_struct Tryd.underlying54 h
  match xs, hlen with
  | [y0, y1, y2], _ =>
    have g0 : DataW.trod enc Tryd.prog W 0 (fun _ => true) true k 3 [c0] = some y0 := by have := hg 0 _ rfl; simpa [cellsIntT] using this
    have g1 : DataW.trod enc Tryd.prog W 0 (fun _ => true) true k 9 [c1] = some y1 := by have := hg 1 _ rfl; simpa [cellsIntT, cellsStrT] using this
    have g2 : DataW.trod enc Tryd.prog W 0 (fun _ => true) true k 3 [c2] = some y2 := by have := hg 2 _ rfl; simpa [cellsIntT, cellsStrT] using this
    obtain ⟨m, e0, rfl, _⟩ := DataW.trod_int Tryd.underlying3 g0
    obtain ⟨z, e1, rfl, _⟩ := DataW.trod_string Tryd.underlying9 g1
    obtain ⟨p, e2, rfl, _⟩ := DataW.trod_int Tryd.underlying3 g2
    injection e0 with e0
    injection e1 with e1
    injection e2 with e2
    subst e0 e1 e2
    refine ⟨⟨m, z.data.toList, p⟩, rfl, by simp, rfl, ?_⟩
    rw [hx]
    simp only [DataW.weights, Tryd.underlying54]
    exact DataW.weights_mem_each (j := 1) rfl rfl _ (by simp [DataW.weights])
set_option maxRecDepth 100000 in
theorem in_toks {a : Option Addr} {len cap : Nat} {d : DataW H} {p : List MemPlace} (h : DataW.Trod enc Tryd.prog W 0 (fun _ => true) true 27 (.slice a len cap) d p)
    (hw : ∀ n ∈ d.weights Tryd.prog 27, n ≤ reachBytes) :
    ∃ ts : List RTok, ts.length = len ∧ RIn W a ts ∧ ∀ t ∈ ts, t.text.length ≤ 140737488351232 := by
  obtain ⟨fuel, hf⟩ := h
  rcases Go.Deep.open_slice Tryd.underlying27 hf with ⟨hcs, _⟩ | ⟨x, l, c, m, n, D, Pl, hcs, hb, hl, hm, hmm, hx, hi⟩
  · simp [Value.cells] at hcs
    obtain ⟨rfl, rfl, rfl⟩ := hcs
    exact ⟨[], rfl, fun h0 => by simp at h0, fun t ht => by simp at ht⟩
  · simp [Value.cells] at hcs
    obtain ⟨rfl, rfl, rfl⟩ := hcs
    rw [if_pos rfl] at hmm
    subst hmm
    rw [cellsTok] at hi
    obtain ⟨g, o, spot⟩ := x
    have key : ∀ i, i < len → ∃ t : RTok, (W.cell? ((⟨g, o, spot⟩ : Addr).add (i * 3)) = some (.int .i64 t.kind) ∧ W.cell? (((⟨g, o, spot⟩ : Addr).add (i * 3)).add 1) = some (.string ⟨t.text.toArray⟩) ∧ W.cell? (((⟨g, o, spot⟩ : Addr).add (i * 3)).add 2) = some (.int .i64 t.place)) ∧ t.text.length ≤ 140737488351232 := by
      intro i hil
      obtain ⟨cs', hc, ht'⟩ := hi i (by omega)
      obtain ⟨_, hcl, hat⟩ := World.cells?_some hc
      match cs', hcl with
      | [c0, c1, c2], _ =>
        obtain ⟨t, e0, e1, e2, ew⟩ := trod_tok ht'
        have h0 := hat 0 (by omega)
        have h1 := hat 1 (by omega)
        have h2 := hat 2 (by omega)
        simp only [List.getElem?_cons_zero, List.getElem?_cons_succ] at h0 h1 h2
        refine ⟨t, ⟨?_, ?_, ?_⟩, ?_⟩
        · rw [← e0, ← h0]; simp [Addr.add]
        · rw [← e1, ← h1]
        · rw [← e2, ← h2]
        · have hd : d = .slice ((List.range len).map D) ((List.range (m - len)).map fun j => D (len + j)) := congrArg Prod.fst hx
          have : t.text.length ≤ reachBytes := hw _ (by
            rw [hd]
            simp only [DataW.weights, Tryd.underlying27]
            exact List.mem_cons_of_mem _ (List.mem_append_left _ (weightsAll_mem (List.mem_map.2 ⟨i, List.mem_range.2 hil, rfl⟩) ew)))
          exact this
    have hch : ∃ f : Nat → RTok, ∀ i (hil : i < len), (W.cell? ((⟨g, o, spot⟩ : Addr).add (i * 3)) = some (.int .i64 (f i).kind) ∧ W.cell? (((⟨g, o, spot⟩ : Addr).add (i * 3)).add 1) = some (.string ⟨(f i).text.toArray⟩) ∧ W.cell? (((⟨g, o, spot⟩ : Addr).add (i * 3)).add 2) = some (.int .i64 (f i).place)) ∧ (f i).text.length ≤ 140737488351232 :=
      ⟨fun i => if h : i < len then Classical.choose (key i h) else ⟨0, [], 0⟩, fun i hil => by
        have := Classical.choose_spec (key i hil)
        simp only [dif_pos hil]
        exact this⟩
    obtain ⟨f, hf2⟩ := hch
    refine ⟨(List.range len).map f, by simp, fun h0 => ?_, fun t ht => ?_⟩
    · have h0' : 0 < len := by simpa using h0
      have hsp : spot = none := by
        have := (hf2 0 h0').1.1
        simpa [Addr.add] using World.cell?_spot this
      subst hsp
      have hadd : ∀ k j : Nat, (⟨g, k, none⟩ : Addr).add j = ⟨g, k + j, none⟩ := fun k j => by
        unfold Addr.add
        by_cases e : j = 0
        · simp [e]
        · simp [e]
      refine ⟨g, o, rfl, ?_, fun j hj => ?_⟩
      · have := (hf2 0 h0').1.1
        rw [hadd] at this
        exact cell_lt this
      · have hj' : j < len := by simpa using hj
        obtain ⟨h1, h2, h3⟩ := (hf2 j hj').1
        rw [hadd, hadd] at h2 h3
        rw [hadd] at h1
        simp only [List.getElem_map, List.getElem_range]
        exact ⟨h1, h2, h3⟩
    · obtain ⟨i, hi, rfl⟩ := List.mem_map.1 ht
      exact (hf2 i (List.mem_range.1 hi)).2
end
end Go.Proofs.YtcgdeoldgnjdeaaDoor
