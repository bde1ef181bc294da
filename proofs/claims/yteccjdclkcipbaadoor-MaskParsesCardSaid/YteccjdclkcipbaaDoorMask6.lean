/-
  mask.Parse: what it returns.
-/
import Derived.Test.YteccjdclkcipbaaDoorMask5
import Derived.Test.YteccjdclkcipbaaDoorPlMa
namespace Go.Proofs.YteccjdclkcipbaaDoor
open Go.RowKit

def secsC : List Value → List MS → List Value
  | v :: vs, s :: ss => secC v s ++ secsC vs ss
  | _, _ => []
theorem secsC_snoc : ∀ (vs : List Value) (ss : List MS) (v : Value) (s : MS), vs.length = ss.length → secsC (vs ++ [v]) (ss ++ [s]) = secsC vs ss ++ secC v s
  | [], [], v, s, _ => by simp [secsC]
  | x :: vs, y :: ss, v, s, h => by
    have := secsC_snoc vs ss v s (by simpa using h)
    simp [secsC, this]
  | [], _ :: _, _, _, h => by simp at h
  | _ :: _, [], _, _, h => by simp at h
theorem secsC_len : ∀ (vs : List Value) (ss : List MS), vs.length = ss.length → (secsC vs ss).length = 3 * ss.length
  | [], [], _ => rfl
  | x :: vs, y :: ss, h => by
    have := secsC_len vs ss (by simpa using h)
    simp only [secsC, List.length_append, this, List.length_cons]
    simp [secC]
    omega
  | [], _ :: _, h => by simp at h
  | _ :: _, [], h => by simp at h
/-- a section that is done: its parts lie below base pb -/
def DoneAt (w : World) (pb : Nat) (v : Value) (s : MS) : Prop := w.ownsRow 0 95 7 v s.parts.length (partsC s.parts) ∧ ∀ b, v.ownBlock = some b → b < pb
theorem ownsRow_base0 {w : World} {base : Nat} {e : TypeId} {size : Nat} {v : Value} {n : Nat} {xs : List Value} (h : w.ownsRow base e size v n xs) : w.ownsRow 0 e size v n xs := ⟨h.1, h.2.imp id fun ⟨g, cap, cur, a1, _, a2⟩ => ⟨g, cap, cur, a1, Nat.zero_le _, a2⟩⟩
/-- what Parse has made: done sections and the open one -/
structure MSt (w : World) (l : Bs) (done : List MS) (cur : MS) (g cap pb : Nat) (vs : List Value) (vc : Value) (wr : World) : Prop where
  res : Lies wr w.heap.size 43 #[.string ⟨#[]⟩, .slice none 0 0]
  box : Lies wr (w.heap.size + 2) 43 #[.string ⟨l.toArray⟩, .slice (some ⟨g, 0, none⟩) (done.length + 1) cap]
  len : vs.length = done.length
  sec : SecIn wr (.slice (some ⟨g, 0, none⟩) (done.length + 1) cap) (w.heap.size + 1) done.length (secsC vs done) vc cur pb
  old : ∀ (i : Nat) v s, vs[i]? = some v → done[i]? = some s → DoneAt wr pb v s
  pb3 : w.heap.size + 3 ≤ pb
  bel : Below w.heap.size w wr
theorem MSt.next {w : World} {l : Bs} {done : List MS} {cur : MS} {g cap pb : Nat} {vs : List Value} {vc : Value} {wr w' : World} (h : MSt w l done cur g cap pb vs vc wr) (hb : Below wr.heap.size wr w') : MSt w l done cur g cap pb vs vc w' :=
  ⟨Lies.below h.res hb, Lies.below h.box hb, h.len, h.sec.next hb, fun i v s h1 h2 => ⟨own_next hb (h.old i v s h1 h2).1, (h.old i v s h1 h2).2⟩, h.pb3, h.bel.trans (hb.mono h.bel.size)⟩
theorem MSt.drew {w : World} {l : Bs} {done : List MS} {cur : MS} {g cap pb : Nat} {vs : List Value} {vc : Value} {wr : World} (h : MSt w l done cur g cap pb vs vc wr) : MSt w l done cur g cap pb vs vc wr.drew := h.next (Below.refl _ _).drew
/-- a block of another type than a row's is none of its -/
theorem lies_apart {w : World} {b : Nat} {t : TypeId} {cs : Array Value} {base : Nat} {e : TypeId} {size : Nat} {v : Value} {n : Nat} {xs : List Value} (h : Lies w b t cs) (ho : w.ownsRow base e size v n xs) (he : t ≠ e) : some b ≠ v.ownBlock := by
  rcases ho.2 with ⟨rfl, _⟩ | ⟨g, cap, cur, rfl, _, a, _⟩
  · simp [Value.ownBlock]
  · intro e2
    simp only [Value.ownBlock, Option.some.injEq] at e2
    subst e2
    unfold Lies at h
    rw [h] at a
    injection a with a
    injection a with _ a _
    exact he a
theorem MSt.add {w : World} {l : Bs} {done : List MS} {cur : MS} {g cap pb : Nat} {vs : List Value} {vc : Value} {wr w' : World} (h : MSt w l done cur g cap pb vs vc wr) {v' : Value} {x : MS} (hs : SecIn w' (.slice (some ⟨g, 0, none⟩) (done.length + 1) cap) (w.heap.size + 1) done.length (secsC vs done) v' x pb) (ho : Only wr w' g vc.ownBlock) : MSt w l done x g cap pb vs v' w' := by
  have hg : ∀ b : Nat, some b ≠ (Value.slice (some ⟨g, 0, none⟩) (done.length + 1) cap).ownBlock → b ≠ g := fun b hb e => hb (by rw [e]; rfl)
  have r1 := lies_apart h.res h.sec.list (by decide)
  have r2 := lies_apart h.res h.sec.parts (by decide)
  have q1 := lies_apart h.box h.sec.list (by decide)
  have q2 := lies_apart h.box h.sec.parts (by decide)
  refine ⟨(ho.block _ h.res.lt (hg _ r1) r2).trans h.res, (ho.block _ h.box.lt (hg _ q1) q2).trans h.box, h.len, hs, fun i v s h1 h2 => ?_, h.pb3, ?_⟩
  · obtain ⟨o1, o2⟩ := h.old i v s h1 h2
    refine ⟨⟨o1.1, o1.2.imp id ?_⟩, o2⟩
    rintro ⟨b, c, k, e1, e2, e3, e4⟩
    refine ⟨b, c, k, e1, e2, (ho.block b (Array.getElem?_eq_some_iff.1 e3).1 ?_ ?_).trans e3, e4⟩
    · intro e
      have := own_apart o1 h.sec.list (by decide)
      rw [e1] at this
      simp [Value.ownBlock, e] at this
    · intro e
      have hb := o2 b (by rw [e1]; rfl)
      have := (h.sec.parts.lt b e.symm).1
      omega
  · have hl := (h.sec.list.lt g rfl).1
    exact h.bel.trans (ho.below h.bel.size (by omega) (fun k hk => by have := (h.sec.parts.lt k hk).1; have := h.pb3; omega))
theorem MSt.semi {w : World} {l : Bs} {done : List MS} {cur : MS} {g cap pb : Nat} {vs : List Value} {vc : Value} {wr w1 : World} (h : MSt w l done cur g cap pb vs vc wr) {g2 cap2 : Nat}
    (hown : w1.ownsRow (w.heap.size + 1) 93 3 (.slice (some ⟨g2, 0, none⟩) (done.length + 1 + 1) cap2) (done.length + 1 + 1) ((secsC vs done ++ secC vc cur) ++ [.slice none 0 0, .int .i64 0, .bool false])) (hg : wr.grownBy w1 (some g)) :
    MSt w l (done ++ [cur]) ms0 g2 cap2 w1.heap.size (vs ++ [vc]) (.slice none 0 0) (w1.setCell ⟨w.heap.size + 2, 1, none⟩ (.slice (some ⟨g2, 0, none⟩) (done.length + 1 + 1) cap2)) := by
  have hbk : ∀ b, b < wr.heap.size → some b ≠ (Value.slice (some ⟨g, 0, none⟩) (done.length + 1) cap).ownBlock → w1.heap[b]? = wr.heap[b]? := fun b hb hne => hg.block b hb hne
  have hres : Lies w1 w.heap.size 43 #[.string ⟨#[]⟩, .slice none 0 0] := (hbk _ h.res.lt (lies_apart h.res h.sec.list (by decide))).trans h.res
  have hbox : Lies w1 (w.heap.size + 2) 43 #[.string ⟨l.toArray⟩, .slice (some ⟨g, 0, none⟩) (done.length + 1) cap] := (hbk _ h.box.lt (lies_apart h.box h.sec.list (by decide))).trans h.box
  have hpart : ∀ {base : Nat} {v : Value} {n : Nat} {xs : List Value}, wr.ownsRow base 95 7 v n xs → (w1.setCell ⟨w.heap.size + 2, 1, none⟩ (.slice (some ⟨g2, 0, none⟩) (done.length + 1 + 1) cap2)).ownsRow base 95 7 v n xs := by
    intro base v n xs ho
    have h1 : w1.ownsRow base 95 7 v n xs := ho.kept hg (own_apart ho h.sec.list (by decide))
    exact ownsRow_setCell_other h1 (a := ⟨w.heap.size + 2, 1, none⟩) (lies_apart hbox h1 (by decide)).symm _
  have hlen : (done ++ [cur]).length + 1 = done.length + 1 + 1 := by simp
  refine ⟨?_, ?_, by simp [h.len], ⟨?_, ?_, World.ownsRow_nil _ _ _ _, by simp [World.setCell]⟩, ?_, ?_, ?_⟩
  · exact (Below.heap_setCell w1 ⟨w.heap.size + 2, 1, none⟩ _ w.heap.size (by show w.heap.size ≠ w.heap.size + 2; omega)).trans hres
  · rw [hlen]
    exact hbox.put 1 _
  · rw [hlen, secsC_snoc vs done vc cur h.len]
    have := ownsRow_setCell_other hown (a := ⟨w.heap.size + 2, 1, none⟩) (lies_apart hbox hown (by decide)).symm (.slice (some ⟨g2, 0, none⟩) (done.length + 1 + 1) cap2)
    simpa [secC, ms0] using this
  · rw [secsC_len _ _ (by simp [h.len])]
  · intro i v s h1 h2
    rcases Nat.lt_or_ge i vs.length with hi | hi
    · rw [List.getElem?_append_left hi] at h1
      rw [List.getElem?_append_left (by rw [← h.len]; exact hi)] at h2
      obtain ⟨o1, o2⟩ := h.old i v s h1 h2
      exact ⟨hpart o1, fun b hb => Nat.lt_of_lt_of_le ((o1.lt b hb).2) hg.size⟩
    · rw [List.getElem?_append_right hi] at h1
      rw [List.getElem?_append_right (by rw [← h.len]; exact hi), ← h.len] at h2
      rcases Nat.eq_zero_or_pos (i - vs.length) with hz | hz
      · rw [hz] at h1 h2
        simp at h1 h2
        subst h1 h2
        exact ⟨ownsRow_base0 (hpart h.sec.parts), fun b hb => Nat.lt_of_lt_of_le ((h.sec.parts.lt b hb).2) hg.size⟩
      · rw [List.getElem?_eq_none (by simp; omega)] at h1
        cases h1
  · have := h.sec.big
    have := h.pb3
    have := hg.size
    omega
  · have hl := (h.sec.list.lt g rfl).1
    have hb1 : Below w.heap.size wr w1 := ⟨hg.os, hg.tape, hg.output, hg.size, fun k hk => hg.block k (Nat.lt_of_lt_of_le hk h.bel.size) (fun e => by injection e with e; omega)⟩
    exact (h.bel.trans hb1).setCell (p := ⟨w.heap.size + 2, 1, none⟩) (by show w.heap.size ≤ w.heap.size + 2; omega) _
/-- a format's sections, as they lie in memory -/
def FmtAt (w : World) (v : Value) (L : List MS) : Prop := ∃ vs : List Value, vs.length = L.length ∧ w.ownsRow 0 93 3 v L.length (secsC vs L) ∧ ∀ (i : Nat) u s, vs[i]? = some u → L[i]? = some s → w.ownsRow 0 95 7 u s.parts.length (partsC s.parts)
theorem FmtAt.next {w w' : World} {v : Value} {L : List MS} (h : FmtAt w v L) (hb : Below w.heap.size w w') : FmtAt w' v L := by
  obtain ⟨vs, h1, h2, h3⟩ := h
  exact ⟨vs, h1, own_next hb h2, fun i u s a b => own_next hb (h3 i u s a b)⟩
theorem MSt.fmt {w : World} {l : Bs} {done : List MS} {cur : MS} {g cap pb : Nat} {vs : List Value} {vc : Value} {wr : World} (h : MSt w l done cur g cap pb vs vc wr) : FmtAt wr (.slice (some ⟨g, 0, none⟩) (done.length + 1) cap) (done ++ [cur]) := by
  refine ⟨vs ++ [vc], by simp [h.len], ?_, ?_⟩
  · rw [secsC_snoc vs done vc cur h.len, List.length_append]
    exact ownsRow_base0 h.sec.list
  · intro i u s h1 h2
    rcases Nat.lt_or_ge i vs.length with hi | hi
    · rw [List.getElem?_append_left hi] at h1
      rw [List.getElem?_append_left (by rw [← h.len]; exact hi)] at h2
      exact (h.old i u s h1 h2).1
    · rw [List.getElem?_append_right hi] at h1
      rw [List.getElem?_append_right (by rw [← h.len]; exact hi), ← h.len] at h2
      rcases Nat.eq_zero_or_pos (i - vs.length) with hz | hz
      · rw [hz] at h1 h2
        simp at h1 h2
        subst h1 h2
        exact ownsRow_base0 h.sec.parts
      · rw [List.getElem?_eq_none (by simp; omega)] at h1
        cases h1
theorem FmtAt.set {w : World} {v : Value} {L : List MS} (h : FmtAt w v L) {b : Nat} {cs : Array Value} (hl : Lies w b 43 cs) (k : Nat) (u : Value) : FmtAt (w.setCell ⟨b, k, none⟩ u) v L := by
  obtain ⟨vs, h1, h2, h3⟩ := h
  exact ⟨vs, h1, ownsRow_setCell_other h2 (a := ⟨b, k, none⟩) (lies_apart hl h2 (by decide)).symm u, fun i x s a c => ownsRow_setCell_other (h3 i x s a c) (a := ⟨b, k, none⟩) (lies_apart hl (h3 i x s a c) (by decide)).symm u⟩
theorem MSt.box_kept {w : World} {l : Bs} {done : List MS} {cur : MS} {g cap pb : Nat} {vs : List Value} {vc : Value} {wr w1 : World} (h : MSt w l done cur g cap pb vs vc wr) (hg : wr.grownBy w1 (some g)) : Lies w1 (w.heap.size + 2) 43 #[.string ⟨l.toArray⟩, .slice (some ⟨g, 0, none⟩) (done.length + 1) cap] :=
  (hg.block _ h.box.lt (lies_apart h.box h.sec.list (by decide))).trans h.box
/-- what Parse leaves -/
def ParsePost (w : World) (l : Bs) (r : List MS ⊕ (Nat × Int)) (e : Ending) (w' : World) : Prop :=
  match r with
  | .inl L => ∃ v, e = .returned (.tuple #[.agg #[.string ⟨l.toArray⟩, v], .int .i64 0, .int .i64 0]) ∧ FmtAt w' v L ∧ Below w.heap.size w w'
  | .inr p => e = .returned (.tuple #[.agg #[.string ⟨#[]⟩, .slice none 0 0], .int .i64 (p.1 : Int), .int .i64 p.2]) ∧ Below w.heap.size w w'
end Go.Proofs.YteccjdclkcipbaaDoor
