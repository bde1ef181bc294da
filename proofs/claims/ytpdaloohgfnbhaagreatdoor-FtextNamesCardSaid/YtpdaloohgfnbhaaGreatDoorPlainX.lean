/-
  ref05: run, IsNumber, number, IsMark, word, IsName, Faults, Signs, begins; the next token (merged: Ref1 .. Ref5, PlainX).
-/
import Derived.Test.YtpdaloohgfnbhaaGreatDoorPlainM
import Derived.Test.YtpdaloohgfnbhaaGreatDoorLex8
import Derived.Test.YtpdaloohgfnbhaaGreatDoorPl1
namespace Go.Proofs.YtpdaloohgfnbhaaGreatDoor
open Go.RowKit

/-- how far the search for the longest number has come -/
def NInv (l : Bs) (best m : Nat) : Prop := best ≤ pNumber l ∧ (pNumber l ≤ m → best = pNumber l)
theorem NInv.start (l : Bs) : NInv l 0 0 := ⟨Nat.zero_le _, fun h => by omega⟩
theorem NInv.yes {l : Bs} {best m : Nat} (h : NInv l best m) (hm : m < l.length) (hy : rIsNumber (l.take (m + 1)) = true) : NInv l (m + 1) (m + 1) := by
  rw [rIsNumber_eq] at hy
  simp only [Bool.and_eq_true, decide_eq_true_eq, List.length_take] at hy
  have := number_take_le l (m + 1) (by omega)
  have := h.1
  exact ⟨by omega, fun h2 => by omega⟩
theorem NInv.no {l : Bs} {best m : Nat} (h : NInv l best m) (hm : m < l.length) (hy : rIsNumber (l.take (m + 1)) = false) : NInv l best (m + 1) := by
  refine ⟨h.1, fun h2 => ?_⟩
  rcases Nat.eq_or_lt_of_le h2 with h3 | h3
  · exfalso
    rw [rIsNumber_eq, ← h3, number_take_self, List.length_take] at hy
    have := pNumber_le l
    rw [show min (pNumber l) l.length = pNumber l by omega] at hy
    simp at hy
    omega
  · exact h.2 (by omega)
theorem NInv.stop {l : Bs} {best m : Nat} (h : NInv l best m) (hm : m < l.length) (hc : isNumC l[m] = false) : best = pNumber l := by
  apply h.2
  rcases Nat.lt_or_ge m (pNumber l) with h1 | h1
  · rw [number_chars l m h1 hm] at hc; cases hc
  · exact h1
theorem NInv.done {l : Bs} {best m : Nat} (h : NInv l best m) (hm : ¬ m < l.length) : best = pNumber l := h.2 (by have := pNumber_le l; omega)

/-- how long the word is -/
def rWord (l : Bs) : Nat := if letter0 l || atIs l 0 95 || atIs l 0 36 then runP isWord l else 0
theorem u8_beq (c d : UInt8) (n : Int) (hn : (d.toNat : Int) = n) : ((c.toNat : Int) == n) = (c == d) := by
  subst hn
  rw [Bool.eq_iff_iff, beq_iff_eq, beq_iff_eq]
  constructor
  · intro h; exact u8_eq (by omega)
  · intro h; rw [h]
theorem u8_bne (c d : UInt8) (n : Int) (hn : (d.toNat : Int) = n) : ((c.toNat : Int) != n) = !(c == d) := by
  rw [← u8_beq c d n hn]; rfl
def rIsName (l : Bs) : Bool := decide (rWord l = l.length) && decide (0 < l.length) && !pMark l && decide (dollars l = 0)
/-- a row of texts in memory -/
def StrIn (w : World) (g : Nat) (ts : List Bs) : Prop := g < w.heap.size ∧ ∀ i (h : i < ts.length), w.cell? ⟨g, i, none⟩ = some (.string ⟨ts[i].toArray⟩)
theorem StrIn.next {w w' : World} {g : Nat} {ts : List Bs} (h : StrIn w g ts) (hb : Below w.heap.size w w') : StrIn w' g ts :=
  ⟨by have := h.1; have := hb.size; omega, fun i hi => (hb.cell (p := ⟨g, i, none⟩) h.1).trans (h.2 i hi)⟩
theorem strIn_alloc (w : World) (ts : List Bs) (t : TypeId) : StrIn (w.alloc (.cells (ts.map fun s => Value.string ⟨s.toArray⟩).toArray t)) w.heap.size ts :=
  ⟨by simp, fun i hi => by rw [World.cell?_alloc_at _ _ _ _ rfl]; simp [hi]⟩
def faultsL : List Bs := (List.range 10).map faultB
def signsL : List Bs := [[60, 62], [60, 61], [62, 61], [43], [45], [42], [47], [94], [38], [61], [60], [62], [37], [40], [41], [123], [125], [44], [59], [58], [35]]
/-- does a text begin with another one, folded, or not? -/
def foldIf (f : Bool) (c : UInt8) : UInt8 := if f then up c else c
def rBegins (f : Bool) (l t : Bs) : Bool := decide (t.length ≤ l.length) && ((l.take t.length).map (foldIf f) == t)
theorem rBegins_no (f : Bool) (l t : Bs) (i : Nat) (h : i < l.length) (h' : i < t.length) (hne : foldIf f l[i] ≠ t[i]) : rBegins f l t = false := by
  unfold rBegins
  rw [Bool.and_eq_false_iff]
  right
  rw [beq_eq_false_iff_ne]
  intro e
  apply hne
  have e2 : ((l.take t.length).map (foldIf f))[i]? = t[i]? := by rw [e]
  rw [List.getElem?_map, List.getElem?_take_of_lt h', List.getElem?_eq_getElem h, List.getElem?_eq_getElem h'] at e2
  simpa using e2
theorem rBegins_yes (f : Bool) (l t : Bs) (hle : t.length ≤ l.length) (h : ∀ i (h : i < l.length) (h' : i < t.length), foldIf f l[i] = t[i]) : rBegins f l t = true := by
  unfold rBegins
  rw [decide_eq_true hle, Bool.true_and, beq_iff_eq]
  apply List.ext_getElem
  · simp; omega
  · intro i h1 h2
    rw [List.getElem_map, List.getElem_take]
    exact h i (by omega) h2
/-- what the document's Next may tell: of a token of size 0 nothing is said -/
def NextIs (l : Bs) (kind : Nat) (text : Bs) (size : Nat) : Prop := size = (pToken l).2.2 ∧ (size ≠ 0 → kind = (pToken l).1 ∧ text = (pToken l).2.1)
theorem nextIs_of {l : Bs} {x : Nat × Bs × Nat} (h : pToken l = x) : NextIs l x.1 x.2.1 x.2.2 := by
  rw [← h]
  exact ⟨rfl, fun _ => ⟨rfl, rfl⟩⟩
def wordy (l : Bs) : Bool := letter0 l || atIs l 0 95 || atIs l 0 36
theorem wordy_pos (l : Bs) (h : wordy l = true) : 0 < runP isWord l := by
  cases l with
  | nil => cases h
  | cons c l =>
    unfold wordy at h
    simp only [atIs_cons, letter0] at h
    have : isWord c = true := by
      unfold isWord
      rcases Bool.or_eq_true_iff.1 h with h | h
      · rcases Bool.or_eq_true_iff.1 h with h | h
        · rw [h]; rfl
        · rw [h]; simp
      · rw [h]; simp
    simp [runP, this]
theorem rWord_yes (l : Bs) (h : wordy l = true) : rWord l = runP isWord l := by unfold rWord; unfold wordy at h; rw [h]; rfl
theorem rWord_no (l : Bs) (h : wordy l = false) : rWord l = 0 := by unfold rWord; unfold wordy at h; rw [h]; rfl
theorem wordy_take (l : Bs) (n : Nat) (hn : 0 < n) : wordy (l.take n) = wordy l := by
  cases l with
  | nil => simp
  | cons c l =>
    cases n with
    | zero => omega
    | succ n => rfl
theorem rIsName_take (l : Bs) (h : wordy l = true) : rIsName (l.take (runP isWord l)) = (!pMark (l.take (runP isWord l)) && decide (dollars (l.take (runP isWord l)) = 0)) := by
  have hp := wordy_pos l h
  have hle := runP_le isWord l
  unfold rIsName
  rw [rWord_yes _ (by rw [wordy_take l _ hp]; exact h), runP_take, List.length_take]
  rw [decide_eq_true (by omega), decide_eq_true (by omega)]
  rfl
theorem rBegins_true (l : Bs) (k : Nat) : rBegins true l (faultB k) = pFaultAt l k := rfl
theorem up_hash (c : UInt8) (h : up c = 35) : c = 35 := by
  cases hl : isLow c
  · rw [up_other c hl] at h; exact h
  · have h1 := up_low c hl
    have h2 := (isLow_iff c).1 hl
    rw [h] at h1
    have : (35 : UInt8).toNat = 35 := rfl
    omega
theorem faultB_head : ∀ k, 1 ≤ k → k < 10 → (faultB k).head? = some 35 := by
  intro k h1 h2
  match k, h1, h2 with
  | 1, _, _ => rfl
  | 2, _, _ => rfl
  | 3, _, _ => rfl
  | 4, _, _ => rfl
  | 5, _, _ => rfl
  | 6, _, _ => rfl
  | 7, _, _ => rfl
  | 8, _, _ => rfl
  | 9, _, _ => rfl
theorem pFaultAt_hash (l : Bs) (k : Nat) (h1 : 1 ≤ k) (h2 : k < 10) (h : pFaultAt l k = true) : atIs l 0 35 = true := by
  unfold pFaultAt at h
  simp only [Bool.and_eq_true, decide_eq_true_eq] at h
  obtain ⟨h3, h4⟩ := h
  have hh := faultB_head k h1 h2
  cases hf : faultB k with
  | nil => rw [hf] at hh; cases hh
  | cons d t =>
    rw [hf] at hh h3 h4
    injection hh with hh
    subst hh
    cases l with
    | nil => simp at h3
    | cons c l =>
      have h5 := eq_of_beq h4
      simp only [List.length_cons, List.take_succ_cons, pFold, List.map_cons] at h5
      injection h5 with h5 _
      rw [atIs_cons, up_hash c h5]
      rfl
theorem faultB_pos : ∀ k, 1 ≤ k → k < 10 → 0 < (faultB k).length := by
  intro k h1 h2
  have := faultB_head k h1 h2
  cases hf : faultB k with
  | nil => rw [hf] at this; cases this
  | cons d t => simp
theorem fault_found (l : Bs) (k : Nat) (h1 : 1 ≤ k) (h2 : k < 10) (h : pFaultAt l k = true) (hb : ∀ j, 1 ≤ j → j < k → pFaultAt l j = false) : pFaultB l = faultB k := by
  unfold pFaultB pFault
  rw [pFaultAt_hash l k h1 h2 h, if_pos rfl, find_first _ 9 k h1 (by omega) h hb]
theorem fault_none (l : Bs) (h : ∀ j, 1 ≤ j → j < 10 → pFaultAt l j = false) : pFaultB l = [] := by
  unfold pFaultB pFault
  rw [find_no _ 9 h]
  split <;> rename_i e
  · split at e <;> cases e
  · rfl
theorem rBegins_false (l t : Bs) : rBegins false l t = Lib.hasPrefix l t := by
  unfold rBegins Lib.hasPrefix
  have e : (l.take t.length).map (foldIf false) = l.take t.length := by
    have : foldIf false = id := funext fun c => rfl
    rw [this, List.map_id]
  rw [e, Bool.eq_iff_iff, List.isPrefixOf_iff_prefix, Bool.and_eq_true, decide_eq_true_eq, beq_iff_eq]
  constructor
  · rintro ⟨h1, h2⟩
    have h3 : t ++ l.drop t.length = l := by
      have := List.take_append_drop t.length l
      rw [h2] at this
      exact this
    exact ⟨_, h3⟩
  · rintro ⟨r, rfl⟩
    simp
theorem idx_mem (l : Bs) (c : UInt8) (h : c ∈ l) : 0 ≤ Lib.indexByte l c := by
  rcases Int.lt_or_le (Lib.indexByte l c) 0 with h1 | h1
  · exact absurd h (idx_no l c h1)
  · exact h1
theorem mem_idx (l : Bs) (c : UInt8) (h : 0 ≤ Lib.indexByte l c) : c ∈ l := by
  obtain ⟨n, _, h2, _, h4⟩ := idx_yes l c h
  rw [h4]
  simp
theorem hasPrefix_one (c : UInt8) (r : Bs) (d : UInt8) : Lib.hasPrefix (c :: r) [d] = (c == d) := by
  rw [hasPrefix_at, atIs_cons]
theorem signsL_pos : ∀ i (hi : i < signsL.length), 0 < (signsL[i]).length := by decide
theorem signsL_len : signsL.length = 21 := rfl
theorem sign_none (c : UInt8) (r : Bs) (h : ∀ i (hi : i < signsL.length), Lib.hasPrefix (c :: r) signsL[i] = false) : pSign (c :: r) = 0 := by
  unfold pSign
  have h0 := h 0 (by decide)
  have h1 := h 1 (by decide)
  have h2 := h 2 (by decide)
  simp only [signsL, List.getElem_cons_zero, List.getElem_cons_succ] at h0 h1 h2
  rw [h0, h1, h2, if_neg (by decide), if_neg]
  intro hi
  have hm := mem_idx _ _ hi
  simp only [List.headD_cons] at hm
  have key : ∀ d ∈ signs1, ∃ i, ∃ hi : i < signsL.length, signsL[i] = [d] := by decide
  obtain ⟨i, hi', e⟩ := key c hm
  have := h i hi'
  rw [e, hasPrefix_one] at this
  simp at this
theorem sign_found (c : UInt8) (r : Bs) (i : Nat) (hi : i < signsL.length) (hy : Lib.hasPrefix (c :: r) signsL[i] = true) (hb : ∀ j (hj : j < signsL.length), j < i → Lib.hasPrefix (c :: r) signsL[j] = false) :
    pSign (c :: r) = (signsL[i]).length ∧ (c :: r).take (pSign (c :: r)) = signsL[i] := by
  have htake : ∀ t : Bs, Lib.hasPrefix (c :: r) t = true → (c :: r).take t.length = t := by
    intro t ht
    rw [← rBegins_false] at ht
    unfold rBegins at ht
    simp only [Bool.and_eq_true, decide_eq_true_eq] at ht
    have := eq_of_beq ht.2
    have e : ((c :: r).take t.length).map (foldIf false) = (c :: r).take t.length := by
      have : foldIf false = id := funext fun c => rfl
      rw [this, List.map_id]
    rw [e] at this
    exact this
  have hlen : pSign (c :: r) = (signsL[i]).length := by
    rcases Nat.lt_or_ge i 3 with h3 | h3
    · have e2 : (signsL[i]).length = 2 := by
        have key : ∀ i (hi : i < signsL.length), i < 3 → (signsL[i]).length = 2 := by decide
        exact key i hi h3
      rw [e2]
      unfold pSign
      rw [if_pos]
      have : i = 0 ∨ i = 1 ∨ i = 2 := by omega
      rcases this with rfl | rfl | rfl
      all_goals simp only [signsL, List.getElem_cons_zero, List.getElem_cons_succ] at hy
      all_goals rw [hy]
      all_goals simp
    · have h0 := hb 0 (by decide) (by omega)
      have h1 := hb 1 (by decide) (by omega)
      have h2 := hb 2 (by decide) (by omega)
      have key : ∀ i (hi : i < signsL.length), 3 ≤ i → ∃ d ∈ signs1, signsL[i] = [d] := by decide
      obtain ⟨d, hd, e⟩ := key i hi h3
      rw [e] at hy ⊢
      rw [hasPrefix_one] at hy
      have hcd := eq_of_beq hy
      subst hcd
      simp only [signsL, List.getElem_cons_zero, List.getElem_cons_succ] at h0 h1 h2
      unfold pSign
      rw [h0, h1, h2, if_neg (by decide), List.headD_cons, if_pos (idx_mem _ _ hd)]
      rfl
  exact ⟨hlen, by rw [hlen]; exact htake _ hy⟩
end Go.Proofs.YtpdaloohgfnbhaaGreatDoor
