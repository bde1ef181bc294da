/-
  What mask.number rests on: signs, products, digits that are no nought.
-/
import Derived.Test.YteccjdclkcipbaaDoorPlainMb
import Derived.Test.YteccjdclkcipbaaDoorPlainMd
import Derived.Test.YteccjdclkcipbaaDoorNum2
import Derived.Lib.IndexAny
namespace Go.Proofs.YteccjdclkcipbaaDoor
open Go.RowKit

theorem pNear_right {neg : Bool} {n : Nat} {e : Int} {q : Int × Int} (h : pNear neg n e = some q) : pRight q.1 q.2 = true ∧ (neg = false → 0 ≤ q.1) := by
  rw [pNear_is neg n e (near1 n e).1 (near2 (near1 n e).1 (near1 n e).2).1 (near1 n e).2 (near2 (near1 n e).1 (near1 n e).2).2 rfl rfl] at h
  split at h
  · rename_i hR
    injection h with h
    subst h
    refine ⟨hR, fun hn => ?_⟩
    subst hn
    exact Int.natCast_nonneg _
  · cases h
theorem sgn_cases (m : Int) : (m < 0 ∧ sgn m = -1) ∨ (m = 0 ∧ sgn m = 0) ∨ (0 < m ∧ sgn m = 1) := by
  unfold sgn
  rcases (by omega : m < 0 ∨ m = 0 ∨ 0 < m) with h | h | h
  · exact .inl ⟨h, if_pos h⟩
  · subst h; exact .inr (.inl ⟨rfl, rfl⟩)
  · exact .inr (.inr ⟨h, by rw [if_neg (by omega), if_pos h]⟩)
theorem pCmp_zero (m e : Int) (hR : pRight m e = true) : pCmp m e 0 0 = sgn m := by
  unfold pCmp
  rw [if_pos ⟨hR, by decide⟩]
  rcases sgn_cases m with ⟨_, h⟩ | ⟨_, h⟩ | ⟨_, h⟩ <;> rw [h]
  · rw [if_neg (by decide)]; decide
  · rw [if_pos (by decide)]; simp
  · rw [if_neg (by decide)]; decide
theorem secOf_sgn (L : List MS) (m : Int) : secOf L (sgn m) = secOf L m := by
  unfold secOf
  rcases sgn_cases m with ⟨a, h⟩ | ⟨a, h⟩ | ⟨a, h⟩ <;> rw [h]
  · have h2 : ¬ m = 0 := by omega
    simp [a, h2]
  · subst a; rfl
  · have h1 : ¬ m < 0 := by omega
    have h2 : ¬ m = 0 := by omega
    simp [h1, h2]
def nines : Bs := [49, 50, 51, 52, 53, 54, 55, 56, 57]
theorem nines_iff (c : UInt8) : nines.contains c = (decide (49 ≤ c.toNat) && decide (c.toNat ≤ 57)) := by
  have : ∀ n : Fin 256, nines.contains (UInt8.ofNat n.val) = (decide (49 ≤ (UInt8.ofNat n.val).toNat) && decide ((UInt8.ofNat n.val).toNat ≤ 57)) := by decide +kernel
  have h := this ⟨c.toNat, c.toNat_lt⟩
  simpa using h
theorem any_nines : ∀ l : Bs, Lib.containsAny l nines = oneNine l
  | [] => rfl
  | c :: t => by
    have ih := any_nines t
    have hge := Lib.indexAny_ge nines t
    have e : oneNine (c :: t) = (nines.contains c || oneNine t) := by rw [nines_iff]; rfl
    rw [e, ← ih]
    unfold Lib.containsAny
    conv => lhs; unfold Lib.indexAny
    cases hc : nines.contains c
    · simp only [Bool.false_eq_true, if_false, Bool.false_or]
      by_cases h1 : Lib.indexAny t nines = -1
      · rw [if_pos (by simp [h1]), h1]
      · have h2 : (Lib.indexAny t nines == -1) = false := by rw [beq_eq_false_iff_ne]; exact h1
        rw [h2]
        simp only [Bool.false_eq_true, if_false]
        rw [decide_eq_decide]
        omega
    · simp
def Ascii (l : Bs) : Prop := ∀ c ∈ l, c.toNat < 128
theorem Ascii.app {a b : Bs} (ha : Ascii a) (hb : Ascii b) : Ascii (a ++ b) := fun c hc => (List.mem_append.1 hc).elim (ha c) (hb c)
theorem Ascii.dig {a : Bs} (h : AllDig a) : Ascii a := fun c hc => by have := (isDigit_iff c).1 (h c hc); omega
theorem Ascii.zeros (n : Nat) : Ascii (List.replicate n 48) := Ascii.dig (AllDig.zeros n)
theorem Ascii.take {a : Bs} (h : Ascii a) (n : Nat) : Ascii (a.take n) := fun c hc => h c (List.mem_of_mem_take hc)
theorem Ascii.drop {a : Bs} (h : Ascii a) (n : Nat) : Ascii (a.drop n) := fun c hc => h c (List.mem_of_mem_drop hc)
theorem nText_ascii (m e : Int) : Ascii (nText m e) := by
  have hd := Ascii.dig (dec_dig m.natAbs).1
  have hs : Ascii (if m < 0 then [45] else []) := by
    split
    · intro c hc; rw [List.mem_singleton.1 hc]; decide
    · intro c hc; cases hc
  unfold nText
  dsimp only
  split
  · exact (hs.app hd).app (Ascii.zeros _)
  · split
    · exact ((hs.app (hd.take _)).app (fun c hc => by rw [List.mem_singleton.1 hc]; decide)).app (hd.drop _)
    · exact ((hs.app (fun c hc => by simp at hc; rcases hc with rfl | rfl <;> decide)).app (Ascii.zeros _)).app hd
theorem groupG_ascii : ∀ l : Bs, Ascii l → Ascii (groupG l)
  | [], h => h
  | c :: t, h => by
    have ih := groupG_ascii t (fun x hx => h x (List.mem_cons_of_mem _ hx))
    unfold groupG
    intro x hx
    rcases List.mem_cons.1 hx with rfl | hx
    · exact h _ (List.mem_cons_self ..)
    · rcases List.mem_append.1 hx with hx | hx
      · split at hx
        · rw [List.mem_singleton.1 hx]; decide
        · cases hx
      · exact ih x hx
theorem cut_ascii {l : Bs} (h : Ascii l) (sep : Bs) : Ascii (Lib.cut l sep).1 ∧ Ascii (Lib.cut l sep).2.1 := by
  unfold Lib.cut
  split
  · exact ⟨h.take _, h.drop _⟩
  · exact ⟨h, fun c hc => by cases hc⟩
theorem pPlaces_ascii (p : MP) (m e : Int) : Ascii (pPlaces p m e) := by
  have hc := cut_ascii (nText_ascii (nRound m e p.most).1 (nRound m e p.most).2) [46]
  unfold pPlaces
  dsimp only
  generalize Lib.cut (nText (nRound m e p.most).1 (nRound m e p.most).2) [46] = c at *
  have h0 : Ascii (if c.1 = [48] then [] else c.1 : Bs) := by
    split
    · intro x hx; cases hx
    · exact hc.1
  have h1 := (Ascii.zeros (p.whole - (if c.1 = [48] then [] else c.1 : Bs).length)).app h0
  have h2 : Ascii (if p.comma = true then groupG (List.replicate (p.whole - (if c.1 = [48] then [] else c.1 : Bs).length) 48 ++ (if c.1 = [48] then [] else c.1 : Bs)) else List.replicate (p.whole - (if c.1 = [48] then [] else c.1 : Bs).length) 48 ++ (if c.1 = [48] then [] else c.1 : Bs)) := by
    split
    · exact groupG_ascii _ h1
    · exact h1
  split
  · exact ((h2.app (fun x hx => by rw [List.mem_singleton.1 hx]; decide)).app hc.2).app (Ascii.zeros _)
  · exact h2
theorem pPlaces_len (p : MP) (m e : Int) (hR : pRight m e = true) (n : Nat) (h1 : p.whole ≤ n) (h2 : p.least ≤ n) : (pPlaces p m e).length ≤ 4 * n + 2000 := by
  have hs := nText_short _ _ (nRound_right m e p.most hR)
  have hc := cut_short (nText (nRound m e p.most).1 (nRound m e p.most).2) [46]
  unfold pPlaces
  dsimp only
  generalize Lib.cut (nText (nRound m e p.most).1 (nRound m e p.most).2) [46] = c at *
  have h0 : (if c.1 = [48] then [] else c.1 : Bs).length ≤ 255 := by split; exact Nat.zero_le _; omega
  generalize (if c.1 = [48] then [] else c.1 : Bs) = w0 at *
  have hl : (List.replicate (p.whole - w0.length) 48 ++ w0 : Bs).length ≤ n + 255 := by rw [List.length_append, List.length_replicate]; omega
  generalize (List.replicate (p.whole - w0.length) 48 ++ w0 : Bs) = w1 at *
  have hg := groupG_len w1
  have h3 : (if p.comma = true then groupG w1 else w1 : Bs).length ≤ 2 * n + 510 := by split <;> omega
  split
  · simp only [List.length_append, List.length_replicate, List.length_cons, List.length_nil]
    omega
  · omega
/-- what a loop over a section's parts has gathered -/
def gath (P : List MP) (m e : Int) (j : Nat) : Bs := (P.take j).flatMap fun p => partText p m e
def someTo (P : List MP) (m e : Int) (j : Nat) : Bool := (P.take j).any fun p => partSome p m e
theorem gath_succ (P : List MP) (m e : Int) (j : Nat) (h : j < P.length) : gath P m e (j + 1) = gath P m e j ++ partText P[j] m e := by
  unfold gath
  rw [List.take_succ_eq_append_getElem h, List.flatMap_append]
  simp
theorem someTo_succ (P : List MP) (m e : Int) (j : Nat) (h : j < P.length) : someTo P m e (j + 1) = (someTo P m e j || partSome P[j] m e) := by
  unfold someTo
  rw [List.take_succ_eq_append_getElem h, List.any_append]
  simp
theorem gath_all (P : List MP) (m e : Int) (j : Nat) (h : P.length ≤ j) : gath P m e j = P.flatMap fun p => partText p m e := by
  unfold gath
  rw [List.take_of_length_le h]
theorem someTo_all (P : List MP) (m e : Int) (j : Nat) (h : P.length ≤ j) : someTo P m e j = P.any fun p => partSome p m e := by
  unfold someTo
  rw [List.take_of_length_le h]
theorem partText_len (p : MP) (m e : Int) (hR : pRight m e = true) (h : p.ok 255) : (partText p m e).length ≤ 4000 := by
  have h1 := nText_short m e hR
  have h2 := pPlaces_len p m e hR 255 h.2.1 h.2.2.2.1
  have h3 := h.2.2.2.2
  unfold partText
  split
  · omega
  · split <;> omega
theorem gath_len (P : List MP) (m e : Int) (hR : pRight m e = true) (h : ∀ p ∈ P, p.ok 255) : ∀ j, j ≤ P.length → (gath P m e j).length ≤ 4000 * j
  | 0, _ => by simp [gath]
  | j + 1, hj => by
    have ih := gath_len P m e hR h j (by omega)
    have := partText_len P[j] m e hR (h _ (List.getElem_mem _))
    rw [gath_succ P m e j (by omega), List.length_append]
    omega
/-- times hundred, step by step -/
theorem hundred_some (n i : Nat) (x y : Int × Int) (hi : i < n) (hy : pNear (decide (x.1 < 0)) x.1.natAbs (x.2 + 2) = some y) : hundred (n - i) x = hundred (n - (i + 1)) y := by
  rw [show n - i = n - (i + 1) + 1 by omega, hundred, hy]
  rfl
theorem hundred_none (n i : Nat) (x : Int × Int) (hi : i < n) (hy : pNear (decide (x.1 < 0)) x.1.natAbs (x.2 + 2) = none) : hundred (n - i) x = none := by
  rw [show n - i = n - (i + 1) + 1 by omega, hundred, hy]
  rfl
theorem pRight_abs (m e : Int) (h : pRight m e = true) : pRight (m.natAbs : Int) e = true := by
  unfold pRight at h ⊢
  simpa using h
end Go.Proofs.YteccjdclkcipbaaDoor
