/-
  mask.Parse in plain words: how far its loop has come.
-/
import Derived.Test.YteccjdclkcipbaaDoorPlainMc
import Derived.Test.YteccjdclkcipbaaDoorPlainQ
namespace Go.Proofs.YteccjdclkcipbaaDoor
open Go.RowKit

theorem hashN_le : ∀ (nf : Bool) (l : Bs), (hashN nf l).1 ≤ l.length
  | _, [] => Nat.le_refl _
  | nf, c :: t => by
    have := hashN_le true t
    unfold hashN
    split
    · simp; omega
    · split <;> simp; omega
theorem zeroN_le : ∀ (nf : Bool) (l : Bs), (zeroN nf l).1 ≤ l.length ∧ (zeroN nf l).2.2 ≤ l.length
  | _, [] => ⟨Nat.le_refl _, Nat.le_refl _⟩
  | nf, c :: t => by
    have := zeroN_le true t
    unfold zeroN
    split
    · simp; omega
    · split <;> simp; omega
theorem pDigits_le (l : Bs) : (pDigits l).2.1 ≤ l.length ∧ (pDigits l).1.whole ≤ l.length ∧ (pDigits l).1.most ≤ l.length ∧ (pDigits l).1.least ≤ l.length ∧ ((pDigits l).1.kind = 4 ∨ (pDigits l).1 = mp0) := by
  have h1 := hashN_le false l
  have h2 := zeroN_le (decide (0 < (hashN false l).1)) (l.drop (hashN false l).1)
  rw [List.length_drop] at h2
  unfold pDigits
  dsimp only
  generalize (zeroN (decide (0 < (hashN false l).1)) (l.drop (hashN false l).1)) = b at *
  generalize (hashN false l) = a at *
  split
  · rename_i h46
    have hlt := at_lt _ _ _ h46
    have h3 := runP_le (fun c => c == 48) (l.drop (a.1 + b.1 + 1))
    rw [List.length_drop] at h3
    generalize runP (fun c => c == 48) (l.drop (a.1 + b.1 + 1)) = z at *
    have h4 := runP_le (fun c => c == 35) (l.drop (a.1 + b.1 + 1 + z))
    rw [List.length_drop] at h4
    generalize runP (fun c => c == 35) (l.drop (a.1 + b.1 + 1 + z)) = h at *
    split
    · exact ⟨Nat.zero_le _, Nat.zero_le _, Nat.zero_le _, Nat.zero_le _, .inr rfl⟩
    · refine ⟨?_, ?_, ?_, ?_, .inl rfl⟩ <;> dsimp only <;> omega
  · refine ⟨?_, ?_, ?_, ?_, .inl rfl⟩ <;> dsimp only <;> omega
theorem pDigits_pos (c : UInt8) (t : Bs) (hc : c = 35 ∨ c = 48 ∨ c = 46) : (pDigits (c :: t)).2.2 = 0 → 1 ≤ (pDigits (c :: t)).2.1 := by
  rcases hc with rfl | rfl | rfl
  · have : hashN false (35 :: t) = ((hashN true t).1 + 1, (hashN true t).2) := rfl
    unfold pDigits
    dsimp only
    rw [this]
    split
    · split
      · intro h; cases h
      · intro _; dsimp only; omega
    · intro _; dsimp only; omega
  · have e1 : hashN false (48 :: t) = (0, false) := rfl
    have e2 : zeroN false (48 :: t) = ((zeroN true t).1 + 1, (zeroN true t).2.1, (zeroN true t).2.2 + 1) := rfl
    unfold pDigits
    dsimp only
    rw [e1]
    dsimp only
    rw [List.drop_zero, show decide (0 < 0) = false from rfl, e2]
    split
    · split
      · intro h; cases h
      · intro _; dsimp only; omega
    · intro _; dsimp only; omega
  · have e1 : hashN false (46 :: t) = (0, false) := rfl
    have e2 : zeroN false (46 :: t) = (0, false, 0) := rfl
    unfold pDigits
    dsimp only
    rw [e1]
    dsimp only
    rw [List.drop_zero, show decide (0 < 0) = false from rfl, e2]
    dsimp only
    rw [if_pos (by simp [atIs])]
    split
    · intro h; cases h
    · intro _; dsimp only; omega
/-- the parts that may come -/
def MP.ok (p : MP) (n : Nat) : Prop := p.kind ≤ 4 ∧ p.whole ≤ n ∧ p.most ≤ n ∧ p.least ≤ n ∧ p.text.length ≤ n
theorem mp0_ok (n : Nat) : mp0.ok n := ⟨by decide, Nat.zero_le _, Nat.zero_le _, Nat.zero_le _, Nat.zero_le _⟩
theorem pDigits_text (l : Bs) : (pDigits l).1.text = [] ∧ (pDigits l).1.kind ≤ 4 := by
  unfold pDigits
  dsimp only
  split
  · split
    · exact ⟨rfl, Nat.zero_le _⟩
    · exact ⟨rfl, Nat.le_refl 4⟩
  · exact ⟨rfl, Nat.le_refl 4⟩
theorem pNext_ok (c : UInt8) (t : Bs) : (pNext (c :: t)).1.ok (t.length + 1) ∧ ((pNext (c :: t)).2.2 = 0 → 1 ≤ (pNext (c :: t)).2.1 ∧ (pNext (c :: t)).2.1 ≤ t.length + 1) := by
  have hd := pDigits_le (c :: t)
  have hdt := pDigits_text (c :: t)
  rw [List.length_cons] at hd
  show (pNextC c t).1.ok (t.length + 1) ∧ ((pNextC c t).2.2 = 0 → 1 ≤ (pNextC c t).2.1 ∧ (pNextC c t).2.1 ≤ t.length + 1)
  unfold pNextC
  split
  · split
    · rename_i h
      obtain ⟨n, hn, hl, -, -⟩ := idx_yes t 34 h
      rw [hn]
      refine ⟨⟨Nat.zero_le _, Nat.zero_le _, Nat.zero_le _, Nat.zero_le _, ?_⟩, fun _ => ?_⟩
      · show (t.take (n : Int).toNat).length ≤ _
        rw [List.length_take]; omega
      · show 1 ≤ (n : Int).toNat + 2 ∧ (n : Int).toNat + 2 ≤ t.length + 1
        omega
    · exact ⟨mp0_ok _, fun h => by cases h⟩
  · split
    · split
      · exact ⟨mp0_ok _, fun h => by cases h⟩
      · rename_i h
        have : 0 < t.length := List.length_pos_iff.2 h
        exact ⟨⟨Nat.zero_le _, Nat.zero_le _, Nat.zero_le _, Nat.zero_le _, by show (t.take 1).length ≤ _; rw [List.length_take]; omega⟩, fun _ => by show 1 ≤ 2 ∧ 2 ≤ t.length + 1; omega⟩
    · split
      · exact ⟨⟨Nat.zero_le _, Nat.zero_le _, Nat.zero_le _, Nat.zero_le _, by show [c].length ≤ _; simp⟩, fun _ => by show 1 ≤ 1 ∧ 1 ≤ t.length + 1; omega⟩
      · split
        · exact ⟨⟨by decide, Nat.zero_le _, Nat.zero_le _, Nat.zero_le _, by show [(37 : UInt8)].length ≤ _; simp⟩, fun _ => by show 1 ≤ 1 ∧ 1 ≤ t.length + 1; omega⟩
        · split
          · exact ⟨⟨by decide, Nat.zero_le _, Nat.zero_le _, Nat.zero_le _, Nat.zero_le _⟩, fun _ => by show 1 ≤ 1 ∧ 1 ≤ t.length + 1; omega⟩
          · split
            · rename_i h
              exact ⟨⟨hdt.2, hd.2.1, hd.2.2.1, hd.2.2.2.1, by rw [hdt.1]; exact Nat.zero_le _⟩, fun e => ⟨pDigits_pos c t h e, hd.1⟩⟩
            · split
              · rename_i h
                have h7 : 7 ≤ t.length + 1 := by
                  unfold isGen at h
                  simp at h
                  have := h.1.1
                  omega
                exact ⟨⟨by decide, Nat.zero_le _, Nat.zero_le _, Nat.zero_le _, Nat.zero_le _⟩, fun _ => by show 1 ≤ 7 ∧ 7 ≤ t.length + 1; omega⟩
              · exact ⟨mp0_ok _, fun h => by cases h⟩
theorem mGo_fuel : ∀ (f g : Nat) (l : Bs) (a : Nat) (done : List MS) (cur : MS), l.length ≤ f → l.length ≤ g → mGo f l a done cur = mGo g l a done cur
  | f, g, [], a, done, cur, _, _ => by cases f <;> cases g <;> rfl
  | 0, _, c :: t, _, _, _, h, _ => by simp at h
  | _ + 1, 0, c :: t, _, _, _, _, h => by simp at h
  | f + 1, g + 1, c :: t, a, done, cur, h1, h2 => by
    rw [List.length_cons] at h1 h2
    have hok := (pNext_ok c t).2
    unfold mGo
    split
    · split
      · rfl
      · exact mGo_fuel f g t _ _ _ (by omega) (by omega)
    · split
      · rfl
      · split
        · rfl
        · rename_i h0
          have h0' : (pNext (c :: t)).2.2 = 0 := by
            rcases Classical.em ((pNext (c :: t)).2.2 = 0) with e | e
            · exact e
            · exact absurd e h0
          have hk := hok h0'
          cases pAdd cur (pNext (c :: t)).1 (decide (done.length = 3)) with
          | none => rfl
          | some x => exact mGo_fuel f g _ _ _ _ (by rw [List.length_drop, List.length_cons]; omega) (by rw [List.length_drop, List.length_cons]; omega)
def mFrom (l : Bs) (a : Nat) (done : List MS) (cur : MS) : List MS ⊕ (Nat × Int) := mGo l.length l a done cur
theorem mFrom_nil (a : Nat) (done : List MS) (cur : MS) : mFrom [] a done cur = .inl (done ++ [cur]) := rfl
theorem mFrom_semi (t : Bs) (a : Nat) (done : List MS) (cur : MS) : mFrom (59 :: t) a done cur = if done.length = 3 then .inr (a, 10) else mFrom t (a + 1) (done ++ [cur]) ms0 := by
  unfold mFrom
  rw [List.length_cons, mGo, if_pos rfl]
theorem mFrom_step (c : UInt8) (t : Bs) (a : Nat) (done : List MS) (cur : MS) (hc : c ≠ 59) : mFrom (c :: t) a done cur =
    if (pNext (c :: t)).2.2 = 13 then .inr (a + (c :: t).length, 13) else if (pNext (c :: t)).2.2 ≠ 0 then .inr (a, 6) else
      match pAdd cur (pNext (c :: t)).1 (decide (done.length = 3)) with
      | none => .inr (a, 6)
      | some x => mFrom ((c :: t).drop (pNext (c :: t)).2.1) (a + (pNext (c :: t)).2.1) done x := by
  have hok := (pNext_ok c t).2
  unfold mFrom
  rw [List.length_cons, mGo, if_neg hc]
  split
  · rfl
  · split
    · rfl
    · rename_i h0
      have h0' : (pNext (c :: t)).2.2 = 0 := by
        rcases Classical.em ((pNext (c :: t)).2.2 = 0) with e | e
        · exact e
        · exact absurd e h0
      have hk := hok h0'
      cases pAdd cur (pNext (c :: t)).1 (decide (done.length = 3)) with
      | none => rfl
      | some x => exact mGo_fuel _ _ _ _ _ _ (by rw [List.length_drop, List.length_cons]; omega) (Nat.le_refl _)
/-- how far Parse has come -/
def MInv (l : Bs) (a : Nat) (done : List MS) (cur : MS) : Prop := a ≤ l.length ∧ done.length ≤ 3 ∧ cur.parts.length ≤ a ∧ cur.percents ≤ a ∧ mFrom l 0 [] ms0 = mFrom (l.drop a) a done cur
theorem MInv.start (l : Bs) : MInv l 0 [] ms0 := ⟨Nat.zero_le _, by decide, Nat.zero_le _, Nat.zero_le _, rfl⟩
theorem MInv.full {l : Bs} {a : Nat} {done : List MS} {cur : MS} (h : MInv l a done cur) (hlt : a < l.length) (hc : atIs l a 59 = true) (h3 : done.length = 3) : mFrom l 0 [] ms0 = .inr (a, 10) := by
  rw [h.2.2.2.2, List.drop_eq_getElem_cons hlt, at_get hc hlt, mFrom_semi, if_pos h3]
theorem MInv.semi {l : Bs} {a : Nat} {done : List MS} {cur : MS} (h : MInv l a done cur) (hlt : a < l.length) (hc : atIs l a 59 = true) (h3 : done.length ≠ 3) : MInv l (a + 1) (done ++ [cur]) ms0 := by
  refine ⟨hlt, by have := h.2.1; simp; omega, Nat.zero_le _, Nat.zero_le _, ?_⟩
  rw [h.2.2.2.2, List.drop_eq_getElem_cons hlt, at_get hc hlt, mFrom_semi, if_neg h3]
theorem MInv.step {l : Bs} {a : Nat} {done : List MS} {cur : MS} (h : MInv l a done cur) (hlt : a < l.length) (hc : atIs l a 59 = false) : mFrom l 0 [] ms0 =
    if (pNext (l.drop a)).2.2 = 13 then .inr (l.length, 13) else if (pNext (l.drop a)).2.2 ≠ 0 then .inr (a, 6) else
      match pAdd cur (pNext (l.drop a)).1 (decide (done.length = 3)) with
      | none => .inr (a, 6)
      | some x => mFrom (l.drop (a + (pNext (l.drop a)).2.1)) (a + (pNext (l.drop a)).2.1) done x := by
  have e := List.drop_eq_getElem_cons hlt
  rw [h.2.2.2.2]
  have hs := mFrom_step l[a] (l.drop (a + 1)) a done cur (at_not hc hlt)
  rw [← e] at hs
  rw [hs, List.length_drop, show a + (l.length - a) = l.length by omega]
  simp only [List.drop_drop]
theorem pAdd_bd {cur x : MS} {p : MP} {b : Bool} (h : pAdd cur p b = some x) : x.parts.length = cur.parts.length + 1 ∧ x.percents ≤ cur.percents + 1 := by
  unfold pAdd at h
  split at h
  · split at h
    · injection h with h; subst h; exact ⟨by simp, Nat.le_succ _⟩
    · cases h
  · split at h
    · split at h
      · cases h
      · injection h with h; subst h; exact ⟨by simp, Nat.le_refl _⟩
    · split at h
      · split at h
        · cases h
        · injection h with h; subst h; exact ⟨by simp, Nat.le_succ _⟩
      · injection h with h; subst h; exact ⟨by simp, Nat.le_succ _⟩
theorem MInv.add {l : Bs} {a : Nat} {done : List MS} {cur x : MS} (h : MInv l a done cur) (hlt : a < l.length) (hc : atIs l a 59 = false) (h0 : (pNext (l.drop a)).2.2 = 0) (hp : pAdd cur (pNext (l.drop a)).1 (decide (done.length = 3)) = some x) : MInv l (a + (pNext (l.drop a)).2.1) done x := by
  have e := List.drop_eq_getElem_cons hlt
  have hok := (pNext_ok l[a] (l.drop (a + 1))).2
  rw [← e] at hok
  obtain ⟨k1, k2⟩ := hok h0
  rw [List.length_drop] at k2
  obtain ⟨b1, b2⟩ := pAdd_bd hp
  have hs := h.step hlt hc
  rw [h0, if_neg (by decide), if_neg (by decide), hp] at hs
  refine ⟨by omega, h.2.1, by have := h.2.2.1; omega, by have := h.2.2.2.1; omega, hs⟩
theorem MInv.done {l : Bs} {a : Nat} {done : List MS} {cur : MS} (h : MInv l a done cur) (hlt : ¬ a < l.length) : mFrom l 0 [] ms0 = .inl (done ++ [cur]) := by
  rw [h.2.2.2.2, List.drop_of_length_le (by omega)]
  rfl
theorem mParse_eq (l : Bs) : mParse l = if 255 < l.length then .inr (0, 14) else mFrom l 0 [] ms0 := rfl
end Go.Proofs.YteccjdclkcipbaaDoor
