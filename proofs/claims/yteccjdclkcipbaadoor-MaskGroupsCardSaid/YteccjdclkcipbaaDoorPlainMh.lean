/-
  What the formats "0" and "#,##0" show.
-/
import Derived.Test.YteccjdclkcipbaaDoorPlainMg
import Derived.Test.YteccjdclkcipbaaDoorPlainMd
import Derived.Test.YteccjdclkcipbaaDoorPlainMb
namespace Go.Proofs.YteccjdclkcipbaaDoor
open Go.RowKit

theorem index_dot (c : UInt8) (t : Bs) : Lib.index (c :: t) [46] = if c = 46 then 0 else if Lib.index t [46] = -1 then -1 else Lib.index t [46] + 1 := by
  show (if ([46] : Bs).isPrefixOf (c :: t) = true then (0 : Int) else if (Lib.index t [46] == -1) = true then -1 else Lib.index t [46] + 1) = _
  by_cases hc : c = 46
  · subst hc; rfl
  · rw [if_neg hc, if_neg (by simp [List.isPrefixOf]; exact fun h => hc h.symm)]
    simp only [beq_iff_eq]
theorem cut_cons (c : UInt8) (t : Bs) : (Lib.cut (c :: t) [46]).1 = if c = 46 then [] else c :: (Lib.cut t [46]).1 := by
  have hge := Lib.index_ge t [46]
  unfold Lib.cut
  rw [index_dot]
  by_cases hc : c = 46
  · rw [if_pos hc, if_pos hc]; rfl
  · rw [if_neg hc, if_neg hc]
    by_cases h2 : Lib.index t [46] = -1
    · rw [if_pos h2, h2]; rfl
    · rw [if_neg h2, if_pos (by omega), if_pos (by omega)]
      show List.take (Lib.index t [46] + 1).toNat (c :: t) = _
      rw [show (Lib.index t [46] + 1).toNat = (Lib.index t [46]).toNat + 1 by omega]
      rfl
def NumC (l : Bs) : Prop := ∀ c ∈ l, isDigit c = true ∨ c = 46
theorem NumC.dig {l : Bs} (h : AllDig l) : NumC l := fun c hc => .inl (h c hc)
theorem NumC.app {a b : Bs} (h : NumC a) (k : NumC b) : NumC (a ++ b) := fun c hc => (List.mem_append.1 hc).elim (h c) (k c)
theorem NumC.dot : NumC [46] := fun _ hc => .inr (List.mem_singleton.1 hc)
theorem cut_dig : ∀ l : Bs, NumC l → AllDig (Lib.cut l [46]).1
  | [], _ => fun _ hc => by simp [Lib.cut, Lib.index] at hc
  | c :: t, h => by
    rw [cut_cons]
    split
    · exact fun _ hc => by simp at hc
    · next hne =>
      have ih := cut_dig t (fun x hx => h x (List.mem_cons_of_mem _ hx))
      intro x hx
      rcases List.mem_cons.1 hx with rfl | hx
      · exact (h x (List.mem_cons_self ..)).resolve_right hne
      · exact ih x hx
theorem nText_chars (m e : Int) (h0 : 0 ≤ m) : NumC (nText m e) ∧ ∃ c t, nText m e = c :: t ∧ isDigit c = true := by
  have hd := (dec_dig m.natAbs).1
  have hl : 1 ≤ (Lib.decDigits m.natAbs).length := by rw [Lib.decDigits_length, Lib.nDigits]; split <;> omega
  have hs : (if m < 0 then [45] else [] : Bs) = [] := if_neg (by omega)
  unfold nText
  dsimp only
  rw [hs]
  generalize Lib.decDigits m.natAbs = D at *
  obtain ⟨d, D', rfl⟩ : ∃ d D', D = d :: D' := by cases D with | nil => simp at hl | cons d D' => exact ⟨d, D', rfl⟩
  have hd0 := hd d (List.mem_cons_self ..)
  split
  · exact ⟨.app (.app (.dig (fun _ hc => by simp at hc)) (.dig hd)) (.dig (AllDig.zeros _)), d, _, rfl, hd0⟩
  · split
    · next h1 =>
      refine ⟨.app (.app (.app (.dig (fun _ hc => by simp at hc)) (.dig (hd.take _))) .dot) (.dig (hd.drop _)), ?_⟩
      obtain ⟨k, hk⟩ : ∃ k, ((d :: D').length + e : Int).toNat = k + 1 := ⟨((d :: D').length + e : Int).toNat - 1, by omega⟩
      rw [hk]
      exact ⟨d, _, rfl, hd0⟩
    · refine ⟨.app (.app (.app (.dig (fun _ hc => by simp at hc)) ?_) (.dig (AllDig.zeros _))) (.dig hd), 48, _, rfl, by decide⟩
      intro c hc
      simp only [List.mem_cons, List.not_mem_nil, or_false] at hc
      rcases hc with rfl | rfl
      · exact .inl (by decide)
      · exact .inr rfl
theorem nRound_pos (m e : Int) (k : Nat) (h : 0 ≤ m) : 0 ≤ (nRound m e k).1 := by
  unfold nRound
  split
  · exact h
  · split
    · exact Int.le_refl _
    · dsimp only
      rw [decide_eq_false (show ¬ m < 0 by omega)]
      generalize pTrim (m.natAbs / 10 ^ (-(k : Int) - e).toNat + if 10 ^ (-(k : Int) - e).toNat ≤ m.natAbs % 10 ^ (-(k : Int) - e).toNat * 2 then 1 else 0) (-(k : Int)) = t
      by_cases hr : pRight (sg false t.1) t.2 = true
      · rw [if_pos hr]; simp [sg]
      · rw [if_neg hr]; exact h
def part0 (g : Bool) : MP := ⟨4, [], 1, g, false, 0, 0⟩
def sec0 (g : Bool) : MS := ⟨[part0 g], 0, true⟩
theorem parse_0 : mParse [48] = .inl [sec0 false] := by rfl
theorem parse_g : mParse [35, 44, 35, 35, 48] = .inl [sec0 true] := by rfl
def whole0 (m e : Int) : Bs := (Lib.cut (nText (nRound m e 0).1 (nRound m e 0).2) [46]).1
theorem whole0_is (m e : Int) (h : 0 ≤ m) : AllDig (whole0 m e) ∧ whole0 m e ≠ [] := by
  have hc := nText_chars (nRound m e 0).1 (nRound m e 0).2 (nRound_pos m e 0 h)
  refine ⟨cut_dig _ hc.1, ?_⟩
  obtain ⟨_, c, t, ht, hd⟩ := hc
  unfold whole0
  rw [ht, cut_cons, if_neg (by rintro rfl; exact absurd hd (by decide))]
  simp
theorem places0 (g : Bool) (m e : Int) (h : 0 ≤ m) : pPlaces (part0 g) m e = if g = true then groupG (whole0 m e) else whole0 m e := by
  have h1 := (whole0_is m e h).2
  show pPlaces ⟨4, [], 1, g, false, 0, 0⟩ m e = _
  unfold pPlaces
  dsimp only
  rw [show (Lib.cut (nText (nRound m e 0).1 (nRound m e 0).2) [46]).1 = whole0 m e from rfl]
  generalize whole0 m e = T at *
  by_cases hr : T = [48]
  · subst hr; cases g <;> rfl
  · rw [if_neg hr]
    obtain ⟨c, r, rfl⟩ : ∃ c r, T = c :: r := by cases T with | nil => exact absurd rfl h1 | cons c r => exact ⟨c, r, rfl⟩
    have : 1 - (c :: r).length = 0 := by simp
    rw [this]
    cases g <;> rfl
theorem oneNine_group : ∀ l : Bs, oneNine (groupG l) = oneNine l
  | [] => rfl
  | c :: t => by
    have ih := oneNine_group t
    unfold oneNine at *
    unfold groupG
    rw [List.any_cons, List.any_append, ih, List.any_cons]
    split <;> simp
theorem number0 (g : Bool) (m e : Int) : mNumber [sec0 g] m e = sgB (decide (m < 0) && oneNine (whole0 m.natAbs e)) ++ (if g = true then groupG (whole0 m.natAbs e) else whole0 m.natAbs e) := by
  have hs : secOf [sec0 g] m = sec0 g := by
    unfold secOf
    rw [if_neg (by simp), if_neg (by simp), if_neg (by simp)]
    rfl
  have hp : partText (part0 g) m.natAbs e = if g = true then groupG (whole0 m.natAbs e) else whole0 m.natAbs e := by
    unfold partText
    rw [if_neg (by simp [part0]), if_pos (by rfl)]
    exact places0 g _ e (by omega)
  have ho : partSome (part0 g) m.natAbs e = oneNine (whole0 m.natAbs e) := by
    unfold partSome
    rw [hp]
    cases g
    · rfl
    · exact oneNine_group _
  unfold mNumber
  rw [hs]
  dsimp only [sec0, hundred]
  simp only [List.flatMap_cons, List.flatMap_nil, List.append_nil, List.any_cons, List.any_nil, Bool.or_false, hp, ho, List.length_singleton]
  generalize oneNine (whole0 m.natAbs e) = q
  by_cases h1 : m < 0 <;> cases q <;> simp [h1, sgB]
/-- what the law sees of the grouped text -/
theorem group_law (q : Bool) (T : Bs) (hT : AllDig T) : CommaOk (sgB q ++ groupG T) ∧ (sgB q ++ groupG T).filter (fun c => c != 44) = sgB q ++ T ∧ (sgB q ++ groupG T).length = (sgB q ++ T).length + (T.length - 1) / 3 := by
  refine ⟨commaOk_sign (groupG_ok T hT) q, ?_, ?_⟩
  · rw [List.filter_append, groupG_filter T (fun c hc e => by subst e; exact absurd (hT _ hc) (by decide))]
    cases q <;> rfl
  · rw [List.length_append, List.length_append, groupG_count]; omega
/-- the bytes ahead of place i that are no commas -/
def bare (b : Bs) (i : Nat) : Bs := (b.take i).filter fun c => c != 44
theorem bare_len (b : Bs) (i : Nat) : (bare b i).length ≤ b.length := by
  unfold bare
  have := List.length_filter_le (fun c : UInt8 => c != 44) (b.take i)
  rw [List.length_take] at this
  omega
theorem bare_step (b : Bs) (i : Nat) (h : i < b.length) : bare b (i + 1) = if atIs b i 44 = true then bare b i else bare b i ++ [b[i]] := by
  unfold bare atIs
  rw [List.take_add_one, List.filter_append, List.getElem?_eq_getElem h]
  by_cases hc : b[i] = 44
  · simp [hc]
  · simp [hc]
theorem bare_all (b : Bs) : bare b b.length = b.filter fun c => c != 44 := by unfold bare; rw [List.take_length]
end Go.Proofs.YteccjdclkcipbaaDoor
