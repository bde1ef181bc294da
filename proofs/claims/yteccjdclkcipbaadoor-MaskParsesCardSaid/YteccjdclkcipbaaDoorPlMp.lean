/-
  The document's places (counterpaneref31.places) in plain words: one loop for what mask.digits reads in two.
-/
import Derived.Test.YteccjdclkcipbaaDoorPlMa
namespace Go.Proofs.YteccjdclkcipbaaDoor
open Go.RowKit

/-- how many bytes the places have; 0: none are there -/
def pLen (x : Bs) : Nat := if (pDigits x).2.2 = 0 then (pDigits x).2.1 else 0
theorem atIs_drop (l : Bs) (a i : Nat) (c : UInt8) (h : a ≤ i) : atIs (l.drop a) (i - a) c = atIs l i c := by
  unfold atIs
  rw [List.getElem?_drop, show a + (i - a) = i by omega]
theorem lt_drop {l : Bs} {a i : Nat} (h : a ≤ i) (hi : i < l.length) : i - a < (l.drop a).length := by rw [List.length_drop]; omega
def SInvP (x : Bs) (j : Nat) (zero : Bool) : Prop := (zero = false ∧ ∃ c, HInv x j c) ∨ (zero = true ∧ ∃ h c cz n, hashN false x = (h, c) ∧ ZInv x h j cz n ∧ 0 < j)
def EndP (x : Bs) (j : Nat) : Prop := ∃ h c cz n, h ≤ j ∧ hashN false x = (h, c) ∧ zeroN (decide (0 < h)) (x.drop h) = (j - h, cz, n)
/-- the loop over the first signs has come to place i -/
structure LAt (l : Bs) (a i s : Nat) (zero : Bool) : Prop where
  lo : a ≤ i
  hi : i ≤ l.length
  inv : SInvP (l.drop a) (i - a) zero
  signs : 0 < s ↔ a < i
  few : s ≤ i - a
theorem LAt.start (l : Bs) (a : Nat) (h : a ≤ l.length) : LAt l a a 0 false := ⟨Nat.le_refl _, h, .inl ⟨rfl, false, by rw [Nat.sub_self]; exact HInv.start _⟩, by omega, Nat.zero_le _⟩
theorem LAt.comma {l : Bs} {a i s : Nat} {zero : Bool} (h : LAt l a i s zero) (hi : i < l.length) (h0 : 0 < s) (ha : atIs l i 44 = true) : LAt l a (i + 1) s zero := by
  have hlo := h.lo
  have h1 := h.signs.1 h0
  rw [← atIs_drop l a i 44 hlo] at ha
  refine ⟨by omega, hi, ?_, ⟨fun _ => by omega, fun _ => h0⟩, by have := h.few; omega⟩
  rw [show i + 1 - a = i - a + 1 by omega]
  rcases h.inv with ⟨z, c, q⟩ | ⟨z, hh, c, cz, n, q1, q2, q3⟩
  · exact .inl ⟨z, true, q.comma (lt_drop hlo hi) (by omega) ha⟩
  · exact .inr ⟨z, hh, c, true, n, q1, q2.comma (lt_drop hlo hi) (by omega) ha, by omega⟩
theorem LAt.hash {l : Bs} {a i s : Nat} (h : LAt l a i s false) (hi : i < l.length) (ha : atIs l i 35 = true) : LAt l a (i + 1) (s + 1) false := by
  have hlo := h.lo
  rw [← atIs_drop l a i 35 hlo] at ha
  refine ⟨by omega, hi, ?_, ⟨fun _ => by omega, fun _ => by omega⟩, by have := h.few; omega⟩
  rw [show i + 1 - a = i - a + 1 by omega]
  rcases h.inv with ⟨z, c, q⟩ | ⟨z, _⟩
  · exact .inl ⟨z, c, q.hash (lt_drop hlo hi) ha⟩
  · cases z
theorem LAt.zero {l : Bs} {a i s : Nat} {zero : Bool} (h : LAt l a i s zero) (hi : i < l.length) (ha : atIs l i 48 = true) : LAt l a (i + 1) (s + 1) true := by
  have hlo := h.lo
  rw [← atIs_drop l a i 48 hlo] at ha
  refine ⟨by omega, hi, ?_, ⟨fun _ => by omega, fun _ => by omega⟩, by have := h.few; omega⟩
  rw [show i + 1 - a = i - a + 1 by omega]
  rcases h.inv with ⟨z, c, q⟩ | ⟨z, hh, c, cz, n, q1, q2, q3⟩
  · have hs := q.stop (fun _ => ⟨at_excl ha (by decide), .inl (at_excl ha (by decide))⟩)
    exact .inr ⟨rfl, i - a, c, false, 1, hs, (ZInv.start _ (i - a) (Nat.le_of_lt (lt_drop hlo hi))).zero (lt_drop hlo hi) ha, by omega⟩
  · exact .inr ⟨rfl, hh, c, cz, n + 1, q1, q2.zero (lt_drop hlo hi) ha, by omega⟩
theorem LAt.stop {l : Bs} {a i s : Nat} {zero : Bool} (h : LAt l a i s zero) (hs : i < l.length → (atIs l i 44 = false ∨ s = 0) ∧ (atIs l i 35 = false ∨ zero = true) ∧ atIs l i 48 = false) : EndP (l.drop a) (i - a) := by
  have hlo := h.lo
  have hs' : i - a < (l.drop a).length → (atIs (l.drop a) (i - a) 44 = false ∨ i - a = 0) ∧ (atIs (l.drop a) (i - a) 35 = false ∨ zero = true) ∧ atIs (l.drop a) (i - a) 48 = false := fun hx => by
    rw [List.length_drop] at hx
    rw [atIs_drop l a i _ hlo, atIs_drop l a i _ hlo, atIs_drop l a i _ hlo]
    obtain ⟨a1, a2, a3⟩ := hs (by omega)
    refine ⟨a1.imp id (fun e => ?_), a2, a3⟩
    have := h.signs
    omega
  rcases h.inv with ⟨z, c, q⟩ | ⟨z, hh, c, cz, n, q1, q2, q3⟩
  · have e := q.stop (fun hx => ⟨(hs' hx).2.1.elim id (fun g => by rw [z] at g; cases g), (hs' hx).1⟩)
    refine ⟨i - a, c, false, 0, Nat.le_refl _, e, ?_⟩
    have hle : i - a ≤ (l.drop a).length := by rw [List.length_drop]; have := h.hi; omega
    exact (ZInv.start _ (i - a) hle).stop (fun hx => ⟨(hs' hx).2.2, (hs' hx).1⟩)
  · refine ⟨hh, c, cz, n, q2.1, q1, q2.stop (fun hx => ⟨(hs' hx).2.2, (hs' hx).1⟩)⟩
theorem pDigits_of {x : Bs} {h : Nat} {c cz : Bool} {j n : Nat} (hj : h ≤ j) (q1 : hashN false x = (h, c)) (q2 : zeroN (decide (0 < h)) (x.drop h) = (j - h, cz, n)) :
    pDigits x = if atIs x j 46 = true then (if j = 0 ∧ runP (fun c => c == 48) (x.drop (j + 1)) + runP (fun c => c == 35) (x.drop (j + 1 + runP (fun c => c == 48) (x.drop (j + 1)))) = 0 then (mp0, 0, 6) else (⟨4, [], n, c || cz, true, runP (fun c => c == 48) (x.drop (j + 1)) + runP (fun c => c == 35) (x.drop (j + 1 + runP (fun c => c == 48) (x.drop (j + 1)))), runP (fun c => c == 48) (x.drop (j + 1))⟩, j + 1 + runP (fun c => c == 48) (x.drop (j + 1)) + runP (fun c => c == 35) (x.drop (j + 1 + runP (fun c => c == 48) (x.drop (j + 1)))), 0)) else (⟨4, [], n, c || cz, false, 0, 0⟩, j, 0) := by
  unfold pDigits
  rw [q1]
  dsimp only
  rw [q2]
  dsimp only
  rw [show h + (j - h) = j by omega]
theorem pDigits_kind (x : Bs) (h : (pDigits x).2.2 = 0) : (pDigits x).1.kind = 4 := by
  unfold pDigits at h ⊢
  dsimp only at h ⊢
  split at h
  · split at h
    · cases h
    · rename_i h1 h2
      rw [if_pos h1, if_neg h2]
  · rename_i h1
    rw [if_neg h1]
theorem pLen_plain {l : Bs} {a i : Nat} (h : EndP (l.drop a) (i - a)) (hlo : a ≤ i) (h46 : atIs l i 46 = false) : pLen (l.drop a) = i - a := by
  obtain ⟨hh, c, cz, n, q0, q1, q2⟩ := h
  rw [← atIs_drop l a i 46 hlo] at h46
  have e := pDigits_of q0 q1 q2
  rw [h46, if_neg (by decide)] at e
  unfold pLen
  rw [e]
  rfl
theorem runP_zero (l : Bs) (i : Nat) (c : UInt8) (h : atIs l i c = false) : runP (fun d => d == c) (l.drop i) = 0 := by
  rcases Nat.lt_or_ge i l.length with hi | hi
  · have := at_not h hi
    rw [List.drop_eq_getElem_cons hi]
    simp [runP, this]
  · rw [List.drop_of_length_le hi]
    rfl
theorem runP_pos (l : Bs) (i : Nat) (c : UInt8) (h : atIs l i c = true) : 0 < runP (fun d => d == c) (l.drop i) := by
  have hi := at_lt _ _ _ h
  rw [List.drop_eq_getElem_cons hi, at_get h hi]
  simp [runP]
theorem pLen_point {l : Bs} {a i : Nat} (h : EndP (l.drop a) (i - a)) (hlo : a ≤ i) (h46 : atIs l i 46 = true) (hy : a < i ∨ atIs l (i + 1) 48 = true ∨ atIs l (i + 1) 35 = true) (z q : Nat) (hz : runP (fun c => c == 48) (l.drop (i + 1)) = z) (hq : runP (fun c => c == 35) (l.drop (i + 1 + z)) = q) :
    pLen (l.drop a) = i + 1 + z + q - a := by
  obtain ⟨hh, c, cz, n, q0, q1, q2⟩ := h
  have h46' := h46
  rw [← atIs_drop l a i 46 hlo] at h46
  have e := pDigits_of q0 q1 q2
  rw [h46, if_pos rfl] at e
  simp only [List.drop_drop] at e
  rw [show a + (i - a + 1) = i + 1 by omega, hz, show a + (i - a + 1 + z) = i + 1 + z by omega, hq] at e
  have hn : ¬ (i - a = 0 ∧ z + q = 0) := by
    rintro ⟨e1, e2⟩
    rcases hy with hy | hy | hy
    · omega
    · have := runP_pos _ _ _ hy
      rw [hz] at this
      omega
    · have z0 : z = 0 := by omega
      subst z0
      rw [Nat.add_zero] at hq
      have := runP_pos _ _ _ hy
      omega
  rw [if_neg hn] at e
  unfold pLen
  rw [e]
  show i - a + 1 + z + q = i + 1 + z + q - a
  omega
theorem pLen_none {l : Bs} {a : Nat} (h : EndP (l.drop a) 0) (h46 : atIs l a 46 = true) (h48 : atIs l (a + 1) 48 = false) (h35 : atIs l (a + 1) 35 = false) : pLen (l.drop a) = 0 := by
  obtain ⟨hh, c, cz, n, q0, q1, q2⟩ := h
  have e0 : atIs (l.drop a) 0 46 = true := by have := atIs_drop l a a 46 (Nat.le_refl _); rw [Nat.sub_self] at this; rw [this]; exact h46
  have e := pDigits_of q0 q1 q2
  rw [e0, if_pos rfl] at e
  simp only [List.drop_drop] at e
  rw [Nat.zero_add, runP_zero _ _ _ h48, Nat.add_zero, runP_zero _ _ _ h35, if_pos ⟨by trivial, rfl⟩] at e
  unfold pLen
  rw [e]
  rfl
section
variable {l : Bs} {a : Nat} {done : List MS} {cur x : MS} {p : MP} {n : Nat}
theorem MInv.err13 (h : MInv l a done cur) (hlt : a < l.length) (hc : atIs l a 59 = false) (hp : pNext (l.drop a) = (p, n, 13)) : mFrom l 0 [] ms0 = .inr (l.length, 13) := by
  rw [h.step hlt hc, hp]; rfl
theorem MInv.err6 (h : MInv l a done cur) (hlt : a < l.length) (hc : atIs l a 59 = false) (hp : pNext (l.drop a) = (p, n, 6)) : mFrom l 0 [] ms0 = .inr (a, 6) := by
  rw [h.step hlt hc, hp]; rfl
theorem MInv.none6 (h : MInv l a done cur) (hlt : a < l.length) (hc : atIs l a 59 = false) (hp : pNext (l.drop a) = (p, n, 0)) (hadd : pAdd cur p (decide (done.length = 3)) = none) : mFrom l 0 [] ms0 = .inr (a, 6) := by
  rw [h.step hlt hc, hp]
  simp [hadd]
theorem MInv.good (h : MInv l a done cur) (hlt : a < l.length) (hc : atIs l a 59 = false) (hp : pNext (l.drop a) = (p, n, 0)) (hadd : pAdd cur p (decide (done.length = 3)) = some x) : MInv l (a + n) done x := by
  have := h.add hlt hc (x := x) (by rw [hp]) (by rw [hp]; exact hadd)
  rw [hp] at this
  exact this
theorem next_len (hlt : a < l.length) (hp : pNext (l.drop a) = (p, n, 0)) : 1 ≤ n ∧ a + n ≤ l.length := by
  have e := List.drop_eq_getElem_cons hlt
  have hok := (pNext_ok l[a] (l.drop (a + 1))).2
  rw [← e, hp] at hok
  have := hok rfl
  rw [List.length_drop] at this
  have h1 := this.1
  have h2 := this.2
  dsimp only at h1 h2
  omega
theorem next_at_eq (hlt : a < l.length) : pNext (l.drop a) = pNextC l[a] (l.drop (a + 1)) := by
  rw [List.drop_eq_getElem_cons hlt]; rfl
end
theorem idx_is {t : Bs} {k : Nat} {c : UInt8} (h : t[k]? = some c) (hb : ∀ j, j < k → t[j]? ≠ some c) : Lib.indexByte t c = (k : Int) := by
  by_cases h0 : 0 ≤ Lib.indexByte t c
  · obtain ⟨o, ho⟩ : ∃ o : Nat, Lib.indexByte t c = o := ⟨(Lib.indexByte t c).toNat, by omega⟩
    obtain ⟨h1, h2⟩ := Lib.indexByte_some ho
    rw [ho]
    rcases Nat.lt_trichotomy o k with g | g | g
    · exact absurd h1 (hb o g)
    · rw [g]
    · exact absurd h (h2 k g)
  · have hge := Lib.indexByte_ge t c
    exact absurd h (Lib.indexByte_none (by omega) k)
theorem idx_out {t : Bs} {c : UInt8} (hb : ∀ j, j < t.length → t[j]? ≠ some c) : ¬ 0 ≤ Lib.indexByte t c := by
  intro h0
  obtain ⟨o, ho⟩ : ∃ o : Nat, Lib.indexByte t c = o := ⟨(Lib.indexByte t c).toNat, by omega⟩
  obtain ⟨h1, _⟩ := Lib.indexByte_some ho
  have hlt : o < t.length := by
    rcases Nat.lt_or_ge o t.length with g | g
    · exact g
    · rw [List.getElem?_eq_none g] at h1; cases h1
  exact hb o hlt h1
/-- how far the quotes' loop has come: no '"' from a + 1 up to a + n -/
def QuInv (l : Bs) (a n : Nat) : Prop := ∀ j, j + 1 < n → (l.drop (a + 1))[j]? ≠ some 34
theorem QuInv.start (l : Bs) (a : Nat) : QuInv l a 1 := fun j h => by omega
theorem QuInv.step {l : Bs} {a n : Nat} (h : QuInv l a n) (h0 : 1 ≤ n) (hq : atIs l (a + n) 34 = false) : QuInv l a (n + 1) := fun j hj => by
  rcases (by omega : j + 1 < n ∨ n = j + 1) with g | rfl
  · exact h j g
  · unfold atIs at hq
    rw [List.getElem?_drop, show a + 1 + j = a + (j + 1) by omega]
    intro e
    rw [e] at hq
    simp at hq
theorem QuInv.yes {l : Bs} {a n : Nat} (h : QuInv l a n) (hlt : a < l.length) (h0 : 1 ≤ n) (h34 : atIs l a 34 = true) (hq : atIs l (a + n) 34 = true) : ∃ p : MP, p.kind = 0 ∧ pNext (l.drop a) = (p, n + 1, 0) := by
  have hi : Lib.indexByte (l.drop (a + 1)) 34 = ((n - 1 : Nat) : Int) := idx_is (by
    unfold atIs at hq
    rw [List.getElem?_drop, show a + 1 + (n - 1) = a + n by omega]
    simpa using hq) (fun j hj => h j (by omega))
  refine ⟨{ mp0 with text := (l.drop (a + 1)).take (n - 1) }, rfl, ?_⟩
  rw [next_at_eq hlt, at_get h34 hlt]
  unfold pNextC
  rw [if_pos rfl, hi, if_pos (by omega), show ((n - 1 : Nat) : Int).toNat = n - 1 by omega, show n - 1 + 2 = n + 1 by omega]
theorem QuInv.no {l : Bs} {a n : Nat} (h : QuInv l a n) (hlt : a < l.length) (h34 : atIs l a 34 = true) (hq : ¬ a + n < l.length) : pNext (l.drop a) = (mp0, 0, 13) := by
  have hi := idx_out (t := l.drop (a + 1)) (c := 34) (fun j hj => h j (by rw [List.length_drop] at hj; omega))
  rw [next_at_eq hlt, at_get h34 hlt]
  unfold pNextC
  rw [if_pos rfl, if_neg hi]
theorem next92_no {l : Bs} {a : Nat} (hlt : a < l.length) (h92 : atIs l a 92 = true) (hn : ¬ a + 1 < l.length) : pNext (l.drop a) = (mp0, 0, 13) := by
  rw [next_at_eq hlt, at_get h92 hlt, List.drop_of_length_le (show l.length ≤ a + 1 by omega)]
  rfl
theorem next92_yes {l : Bs} {a : Nat} (hlt : a < l.length) (h92 : atIs l a 92 = true) (hn : a + 1 < l.length) : ∃ p : MP, p.kind = 0 ∧ pNext (l.drop a) = (p, 2, 0) := by
  rw [next_at_eq hlt, at_get h92 hlt, List.drop_eq_getElem_cons hn]
  exact ⟨{ mp0 with text := [l[a + 1]] }, rfl, rfl⟩
theorem plainC_ne {c d : UInt8} (h : plainC c = true) (hd : plainC d = false) : c ≠ d := fun e => by rw [e, hd] at h; cases h
theorem next_plain {l : Bs} {a : Nat} (hlt : a < l.length) (hp : plainC l[a] = true) : ∃ p : MP, p.kind = 0 ∧ pNext (l.drop a) = (p, 1, 0) := by
  refine ⟨{ mp0 with text := [l[a]] }, rfl, ?_⟩
  rw [next_at_eq hlt]
  unfold pNextC
  rw [if_neg (plainC_ne hp rfl), if_neg (plainC_ne hp rfl), if_pos hp]
theorem next64 {l : Bs} {a : Nat} (hlt : a < l.length) (h : atIs l a 64 = true) : ∃ p : MP, p.kind = 2 ∧ pNext (l.drop a) = (p, 1, 0) := by
  rw [next_at_eq hlt, at_get h hlt]
  exact ⟨{ mp0 with kind := 2 }, rfl, rfl⟩
theorem next37 {l : Bs} {a : Nat} (hlt : a < l.length) (h : atIs l a 37 = true) : ∃ p : MP, p.kind = 1 ∧ pNext (l.drop a) = (p, 1, 0) := by
  rw [next_at_eq hlt, at_get h hlt]
  exact ⟨{ mp0 with kind := 1, text := [37] }, rfl, rfl⟩
theorem gen_head {c : UInt8} {t : Bs} (h : isGen (c :: t) = true) : up c = 71 := by
  unfold isGen at h
  rw [Bool.and_eq_true, Bool.and_eq_true, beq_iff_eq] at h
  have e := h.1.2
  have e2 : (pFold ((c :: t).take 7))[0]? = generalW[0]? := by rw [e]
  unfold pFold at e2
  rw [List.getElem?_map] at e2
  simpa [generalW] using e2
theorem next_other {l : Bs} {a : Nat} (hlt : a < l.length) (h34 : atIs l a 34 = false) (h92 : atIs l a 92 = false) (hp : plainC l[a] = false) (h37 : atIs l a 37 = false) (h64 : atIs l a 64 = false) :
    (isGen (l.drop a) = true → ∃ p : MP, p.kind = 3 ∧ pNext (l.drop a) = (p, 7, 0)) ∧ (isGen (l.drop a) = false → (pLen (l.drop a) = 0 → ∃ p n, pNext (l.drop a) = (p, n, 6)) ∧ (pLen (l.drop a) ≠ 0 → ∃ p : MP, p.kind = 4 ∧ pNext (l.drop a) = (p, pLen (l.drop a), 0))) := by
  have e := next_at_eq hlt
  have hc := List.drop_eq_getElem_cons hlt
  unfold pNextC at e
  rw [if_neg (at_not h34 hlt), if_neg (at_not h92 hlt), hp, if_neg (by decide), if_neg (at_not h37 hlt), if_neg (at_not h64 hlt), ← hc] at e
  constructor
  · intro hg
    have hu : up l[a] = 71 := by rw [hc] at hg; exact gen_head hg
    have hn : ¬ (l[a] = 35 ∨ l[a] = 48 ∨ l[a] = 46) := by
      rintro (h | h | h) <;> (rw [h] at hu; exact absurd hu (by decide))
    rw [if_neg hn, if_pos hg] at e
    exact ⟨_, rfl, e⟩
  · intro hg
    rw [hg] at e
    by_cases hd : l[a] = 35 ∨ l[a] = 48 ∨ l[a] = 46
    · rw [if_pos hd] at e
      have hpos := pDigits_pos l[a] (l.drop (a + 1)) hd
      have hk := (pDigits_le (l.drop a)).2.2.2.2
      rw [← hc] at hpos
      unfold pLen
      have herr : (pDigits (l.drop a)).2.2 = 0 ∨ pDigits (l.drop a) = (mp0, 0, 6) := by
        unfold pDigits
        dsimp only
        split
        · split
          · exact .inr rfl
          · exact .inl rfl
        · exact .inl rfl
      rcases herr with h0 | h6
      · rw [if_pos h0]
        refine ⟨fun hz => by have := hpos h0; omega, fun _ => ⟨(pDigits (l.drop a)).1, ?_, ?_⟩⟩
        · rcases hk with hk | hk
          · exact hk
          · exfalso
            have := pDigits_kind (l.drop a) h0
            rw [hk] at this
            cases this
        · rw [e]
          rw [← h0]
      · rw [h6, if_neg (by decide)]
        exact ⟨fun _ => ⟨_, _, by rw [e, h6]⟩, fun h => absurd rfl h⟩
    · rw [if_neg hd, if_neg (by decide)] at e
      have hpl : pLen (l.drop a) = 0 := by
        have a1 : l[a] ≠ 35 := fun h => hd (.inl h)
        have a2 : l[a] ≠ 48 := fun h => hd (.inr (.inl h))
        have a3 : l[a] ≠ 46 := fun h => hd (.inr (.inr h))
        have b1 : hashN false (l.drop a) = (0, false) := by rw [hc]; simp [hashN, a1]
        have b2 : zeroN false (l.drop a) = (0, false, 0) := by rw [hc]; simp [zeroN, a2]
        have b3 : atIs (l.drop a) 0 46 = false := by
          rw [hc]
          unfold atIs
          rw [List.getElem?_cons_zero, beq_eq_false_iff_ne]
          exact fun e => a3 (Option.some.inj e)
        have := pDigits_of (x := l.drop a) (h := 0) (c := false) (cz := false) (j := 0) (n := 0) (Nat.le_refl _) b1 b2
        rw [b3, if_neg (by decide)] at this
        unfold pLen
        rw [this]
        rfl
      exact ⟨fun _ => ⟨_, _, e⟩, fun h => absurd hpl h⟩
theorem add0 {cur : MS} {p : MP} (b : Bool) (hk : p.kind = 0) : ∃ x, pAdd cur p b = some x ∧ x.number = cur.number := by
  unfold pAdd
  rw [hk]
  exact ⟨_, rfl, rfl⟩
theorem add2 {cur : MS} {p : MP} (hk : p.kind = 2) : pAdd cur p false = none ∧ ∃ x, pAdd cur p true = some x ∧ x.number = cur.number := by
  unfold pAdd
  rw [hk]
  exact ⟨rfl, _, rfl, rfl⟩
theorem add1 {cur : MS} {p : MP} (hk : p.kind = 1) : pAdd cur p true = none ∧ ∃ x, pAdd cur p false = some x ∧ x.number = cur.number := by
  unfold pAdd
  rw [hk]
  exact ⟨rfl, _, rfl, rfl⟩
theorem add34 {cur : MS} {p : MP} (hk : p.kind = 3 ∨ p.kind = 4) (b : Bool) : (b = true ∨ cur.number = true → pAdd cur p b = none) ∧ (b = false → cur.number = false → ∃ x, pAdd cur p b = some x ∧ x.number = true) := by
  have n2 : ¬ p.kind = 2 := by omega
  have n1 : ¬ p.kind = 1 := by omega
  unfold pAdd
  rw [if_neg n2, if_neg n1, if_pos hk]
  refine ⟨fun h => by rw [if_pos h], fun h1 h2 => ?_⟩
  rw [if_neg (by rw [h1, h2]; decide)]
  exact ⟨_, rfl, rfl⟩
end Go.Proofs.YteccjdclkcipbaaDoor
