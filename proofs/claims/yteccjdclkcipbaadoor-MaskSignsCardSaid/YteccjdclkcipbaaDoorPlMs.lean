/-
  A format's text behind itself with ';' between: two sections alike; what a number below 0 shows by one section, and by two.
-/
import Derived.Test.YteccjdclkcipbaaDoorPlMa
namespace Go.Proofs.YteccjdclkcipbaaDoor
open Go.RowKit

theorem runP_end (p : UInt8 → Bool) (h59 : p 59 = false) (r : Bs) : ∀ l : Bs, runP p (l ++ 59 :: r) = runP p l
  | [] => by simp [runP, h59]
  | c :: t => by
    have ih := runP_end p h59 r t
    simp only [List.cons_append, runP]
    rw [ih]
theorem hashN_end (r : Bs) : ∀ (nf : Bool) (l : Bs), hashN nf (l ++ 59 :: r) = hashN nf l
  | nf, [] => by simp [hashN]
  | nf, c :: t => by
    have ih := hashN_end r true t
    simp only [List.cons_append, hashN]
    rw [ih]
theorem zeroN_end (r : Bs) : ∀ (nf : Bool) (l : Bs), zeroN nf (l ++ 59 :: r) = zeroN nf l
  | nf, [] => by simp [zeroN]
  | nf, c :: t => by
    have ih := zeroN_end r true t
    simp only [List.cons_append, zeroN]
    rw [ih]
theorem drop_end (l r : Bs) (n : Nat) (h : n ≤ l.length) : (l ++ r).drop n = l.drop n ++ r := by
  rw [List.drop_append, show n - l.length = 0 by omega, List.drop_zero]
theorem atIs_end (l r : Bs) (i : Nat) (c : UInt8) (h : i ≤ l.length) (hc : c ≠ 59) : atIs (l ++ 59 :: r) i c = atIs l i c := by
  unfold atIs
  rcases Nat.lt_or_ge i l.length with hi | hi
  · rw [List.getElem?_append_left hi]
  · obtain rfl : i = l.length := by omega
    rw [List.getElem?_append_right (Nat.le_refl _), Nat.sub_self, List.getElem?_eq_none (Nat.le_refl _)]
    rw [List.getElem?_cons_zero, Bool.eq_iff_iff]
    simp
    exact fun e => hc e.symm
theorem pDigits_end (l r : Bs) : pDigits (l ++ 59 :: r) = pDigits l := by
  have h1 := hashN_le false l
  have h2 := zeroN_le (decide (0 < (hashN false l).1)) (l.drop (hashN false l).1)
  rw [List.length_drop] at h2
  unfold pDigits
  dsimp only
  rw [hashN_end, drop_end _ _ _ h1, zeroN_end]
  generalize (zeroN (decide (0 < (hashN false l).1)) (l.drop (hashN false l).1)) = b at *
  generalize (hashN false l) = a at *
  rw [atIs_end _ _ _ _ (by omega) (by decide)]
  by_cases h46 : atIs l (a.1 + b.1) 46 = true
  · rw [if_pos h46, if_pos h46]
    have hlt := at_lt _ _ _ h46
    rw [drop_end _ _ _ (by omega), runP_end _ (by decide)]
    have h3 := runP_le (fun c => c == 48) (l.drop (a.1 + b.1 + 1))
    rw [List.length_drop] at h3
    generalize runP (fun c => c == 48) (l.drop (a.1 + b.1 + 1)) = z at *
    rw [drop_end _ _ _ (by omega), runP_end _ (by decide)]
  · rw [if_neg h46, if_neg h46]
theorem indexByte_end (c : UInt8) (r : Bs) : ∀ l : Bs, 0 ≤ Lib.indexByte l c → Lib.indexByte (l ++ r) c = Lib.indexByte l c
  | [], h => by simp [Lib.indexByte] at h
  | b :: t, h => by
    have ih := indexByte_end c r t
    rw [List.cons_append]
    unfold Lib.indexByte at h ⊢
    by_cases hb : (b == c) = true
    · rw [if_pos hb, if_pos hb]
    · rw [if_neg hb] at h
      rw [if_neg hb, if_neg hb]
      by_cases h1 : (Lib.indexByte t c == -1) = true
      · rw [if_pos h1] at h
        exact absurd h (by decide)
      · rw [if_neg h1] at h
        have hge := Lib.indexByte_ge t c
        have h0 : Lib.indexByte t c ≠ -1 := by simpa using h1
        rw [ih (by omega), if_neg h1]
theorem isGen_end (l r : Bs) (h : isGen l = true) : isGen (l ++ 59 :: r) = true := by
  unfold isGen at h ⊢
  simp only [Bool.and_eq_true, Bool.not_eq_true', decide_eq_false_iff_not] at h ⊢
  obtain ⟨⟨h1, h2⟩, h3⟩ := h
  refine ⟨⟨by rw [List.length_append]; omega, ?_⟩, ?_⟩
  · rw [List.take_append, show 7 - l.length = 0 by omega, List.take_zero, List.append_nil]
    exact h2
  · rcases Nat.lt_or_ge 7 l.length with h7 | h7
    · rw [List.getElem?_append_left h7]
      rw [show decide (7 < l.length) = true by simpa using h7] at h3
      rw [Bool.true_and] at h3
      rw [h3, Bool.and_false]
    · have e : l.length = 7 := by omega
      rw [List.getElem?_append_right (by omega), e]
      rw [Bool.and_eq_false_iff]
      exact .inr (by rfl)
theorem pNext_end (l r : Bs) (hl : l ≠ []) (h : (pNext l).2.2 = 0) : pNext (l ++ 59 :: r) = pNext l := by
  cases l with
  | nil => exact absurd rfl hl
  | cons c t =>
    have h' : (pNextC c t).2.2 = 0 := h
    show pNextC c (t ++ 59 :: r) = pNextC c t
    unfold pNextC at h' ⊢
    by_cases c1 : c = 34
    · simp only [if_pos c1] at h' ⊢
      by_cases hi : 0 ≤ Lib.indexByte t 34
      · rw [if_pos hi]
        rw [indexByte_end 34 _ t hi, if_pos hi]
        obtain ⟨n, hn, hlt, -, -⟩ := idx_yes t 34 hi
        rw [hn, List.take_append, show (n : Int).toNat - t.length = 0 by omega, List.take_zero, List.append_nil]
      · rw [if_neg hi] at h'
        cases h'
    simp only [if_neg c1] at h' ⊢
    by_cases c2 : c = 92
    · simp only [if_pos c2] at h' ⊢
      by_cases ht : t = []
      · rw [if_pos ht] at h'
        cases h'
      · rw [if_neg ht, if_neg (by simp)]
        cases t with
        | nil => exact absurd rfl ht
        | cons x y => rfl
    simp only [if_neg c2] at h' ⊢
    by_cases c3 : plainC c = true
    · rw [if_pos c3, if_pos c3]
    simp only [if_neg c3] at h' ⊢
    by_cases c4 : c = 37
    · rw [if_pos c4, if_pos c4]
    simp only [if_neg c4] at h' ⊢
    by_cases c5 : c = 64
    · rw [if_pos c5, if_pos c5]
    simp only [if_neg c5] at h' ⊢
    by_cases c6 : c = 35 ∨ c = 48 ∨ c = 46
    · rw [if_pos c6, if_pos c6]
      exact pDigits_end (c :: t) r
    simp only [if_neg c6] at h' ⊢
    by_cases c7 : isGen (c :: t) = true
    · rw [if_pos c7, show c :: (t ++ 59 :: r) = (c :: t) ++ 59 :: r from rfl, if_pos (isGen_end (c :: t) r c7)]
    · rw [if_neg c7] at h'
      cases h'
/-- a text without ';' is one section; it is that one ahead of ';', too -/
theorem mFrom_one : ∀ (n : Nat) (s : Bs), s.length ≤ n → (59 : UInt8) ∉ s → ∀ (a : Nat) (done : List MS) (cur : MS) (L : List MS), done.length < 3 → mFrom s a done cur = .inl L →
    ∃ x, L = done ++ [x] ∧ ∀ (r : Bs) (a' : Nat) (done' : List MS), done'.length < 3 → mFrom s a' done' cur = .inl (done' ++ [x]) ∧ ∃ a'', mFrom (s ++ 59 :: r) a' done' cur = mFrom r a'' (done' ++ [x]) ms0 := by
  intro n
  induction n with
  | zero =>
    intro s hs _ a done cur L hd hm
    obtain rfl : s = [] := List.eq_nil_of_length_eq_zero (by omega)
    rw [mFrom_nil] at hm
    injection hm with hm
    refine ⟨cur, hm.symm, fun r a' done' hd' => ⟨mFrom_nil _ _ _, a' + 1, ?_⟩⟩
    rw [List.nil_append, mFrom_semi, if_neg (by omega)]
  | succ n ih =>
    intro s hs h59 a done cur L hd hm
    cases s with
    | nil =>
      rw [mFrom_nil] at hm
      injection hm with hm
      refine ⟨cur, hm.symm, fun r a' done' hd' => ⟨mFrom_nil _ _ _, a' + 1, ?_⟩⟩
      rw [List.nil_append, mFrom_semi, if_neg (by omega)]
    | cons c t =>
      have hc : c ≠ 59 := fun e => h59 (by rw [e]; exact List.mem_cons_self ..)
      have hok := (pNext_ok c t).2
      rw [mFrom_step c t a done cur hc] at hm
      by_cases e13 : (pNext (c :: t)).2.2 = 13
      · rw [if_pos e13] at hm; cases hm
      rw [if_neg e13] at hm
      by_cases e0 : (pNext (c :: t)).2.2 ≠ 0
      · rw [if_pos e0] at hm; cases hm
      rw [if_neg e0] at hm
      have e0' : (pNext (c :: t)).2.2 = 0 := Decidable.not_not.1 e0
      obtain ⟨k1, k2⟩ := hok e0'
      have hd0 : decide (done.length = 3) = false := decide_eq_false (by omega)
      rw [hd0] at hm
      cases hp : pAdd cur (pNext (c :: t)).1 false with
      | none => rw [hp] at hm; cases hm
      | some y =>
        rw [hp] at hm
        dsimp only at hm
        rw [List.length_cons] at hs
        obtain ⟨x, hx, hr⟩ := ih ((c :: t).drop (pNext (c :: t)).2.1) (by rw [List.length_drop, List.length_cons]; omega) (fun hmem => h59 (List.mem_of_mem_drop hmem)) _ done y L hd hm
        refine ⟨x, hx, fun r a' done' hd' => ?_⟩
        have hd0' : decide (done'.length = 3) = false := decide_eq_false (by omega)
        obtain ⟨q1, -⟩ := hr r (a' + (pNext (c :: t)).2.1) done' hd'
        obtain ⟨-, a2, q2⟩ := hr r (a' + (pNext (c :: t)).2.1) done' hd'
        refine ⟨?_, a2, ?_⟩
        · rw [mFrom_step c t a' done' cur hc, if_neg e13, if_neg e0, hd0', hp]
          exact q1
        · have he := pNext_end (c :: t) r (by simp) e0'
          rw [List.cons_append] at he
          rw [List.cons_append, mFrom_step c _ a' done' cur hc, he, if_neg e13, if_neg e0, hd0', hp]
          dsimp only
          rw [← q2, ← List.cons_append, drop_end _ _ _ (by rw [List.length_cons]; exact k2)]
theorem parse_one (s : Bs) (h59 : (59 : UInt8) ∉ s) (L : List MS) (h : mParse s = .inl L) : ∃ x, L = [x] ∧ (mParse (s ++ 59 :: s) = .inl [x, x] ∨ ∃ p, mParse (s ++ 59 :: s) = .inr p) := by
  rw [mParse_eq] at h
  split at h
  · cases h
  · obtain ⟨x, hx, hr⟩ := mFrom_one s.length s (Nat.le_refl _) h59 0 [] ms0 L (by decide) h
    refine ⟨x, hx, ?_⟩
    rw [mParse_eq]
    split
    · exact .inr ⟨_, rfl⟩
    · obtain ⟨-, a2, q⟩ := hr s 0 [] (by decide)
      rw [q]
      obtain ⟨q1, -⟩ := hr [] a2 [x] (by simp)
      exact .inl q1
theorem signs_one (x : MS) (m e : Int) (hm : 1 ≤ m) : (mNumber [x] (-m) e = mNumber [x] m e ∨ mNumber [x] (-m) e = 45 :: mNumber [x] m e) ∧ mNumber [x, x] (-m) e = mNumber [x] m e := by
  have s1 : secOf [x] m = x := by
    unfold secOf
    rw [if_neg (by simp), if_neg (by simp), if_neg (by simp)]
    rfl
  have s2 : secOf [x] (-m) = x := by
    unfold secOf
    rw [if_neg (by simp), if_neg (by simp), if_neg (by simp)]
    rfl
  have s3 : secOf [x, x] (-m) = x := by
    unfold secOf
    rw [if_neg (by simp), if_pos ⟨by omega, by simp⟩]
    rfl
  unfold mNumber
  rw [s1, s2, s3, Int.natAbs_neg]
  cases hundred x.percents ((m.natAbs : Int), e) with
  | none => exact ⟨.inl rfl, rfl⟩
  | some y =>
    dsimp only
    rw [if_neg (show ¬ (m < 0 ∧ [x].length < 2 ∧ (x.parts.any fun p => partSome p y.1 y.2) = true) by omega)]
    rw [if_neg (show ¬ (-m < 0 ∧ [x, x].length < 2 ∧ (x.parts.any fun p => partSome p y.1 y.2) = true) by simp)]
    refine ⟨?_, rfl⟩
    split
    · exact .inr rfl
    · exact .inl rfl
theorem MP.ok.mono {p : MP} {n m : Nat} (h : p.ok n) (hm : n ≤ m) : p.ok m := by
  obtain ⟨h1, h2, h3, h4, h5⟩ := h
  exact ⟨h1, by omega, by omega, by omega, by omega⟩
def MS.fine (s : MS) : Prop := s.parts.length ≤ 1000 ∧ s.percents ≤ 1000 ∧ ∀ p ∈ s.parts, p.ok 255
theorem pAdd_parts {cur x : MS} {p : MP} {b : Bool} (h : pAdd cur p b = some x) : x.parts = cur.parts ++ [p] := by
  unfold pAdd at h
  split at h
  · split at h
    · injection h with h; subst h; rfl
    · cases h
  · split at h
    · split at h
      · cases h
      · injection h with h; subst h; rfl
    · split at h
      · split at h
        · cases h
        · injection h with h; subst h; rfl
      · injection h with h; subst h; rfl
theorem mGo_ok : ∀ (f : Nat) (l : Bs) (a : Nat) (done : List MS) (cur : MS) (L : List MS), a + l.length ≤ 255 → done.length ≤ 3 → (∀ s ∈ done, s.fine) → cur.parts.length ≤ a → cur.percents ≤ a → (∀ p ∈ cur.parts, p.ok 255) → mGo f l a done cur = .inl L → 1 ≤ L.length ∧ L.length ≤ 4 ∧ ∀ s ∈ L, s.fine := by
  have fin : ∀ (a : Nat) (done : List MS) (cur : MS) (L : List MS), a ≤ 255 → done.length ≤ 3 → (∀ s ∈ done, s.fine) → cur.parts.length ≤ a → cur.percents ≤ a → (∀ p ∈ cur.parts, p.ok 255) → done ++ [cur] = L → 1 ≤ L.length ∧ L.length ≤ 4 ∧ ∀ s ∈ L, s.fine := by
    intro a done cur L ha hd hf h1 h2 h3 e
    subst e
    refine ⟨by simp, by simp; omega, fun s hs => ?_⟩
    rcases List.mem_append.1 hs with hs | hs
    · exact hf s hs
    · rw [List.mem_singleton.1 hs]
      exact ⟨by omega, by omega, h3⟩
  intro f
  induction f with
  | zero =>
    intro l a done cur L ha hd hf h1 h2 h3 h
    unfold mGo at h
    injection h with h
    exact fin a done cur L (by omega) hd hf h1 h2 h3 h
  | succ f ih =>
    intro l a done cur L ha hd hf h1 h2 h3 h
    cases l with
    | nil =>
      unfold mGo at h
      injection h with h
      exact fin a done cur L (by omega) hd hf h1 h2 h3 h
    | cons c t =>
      rw [List.length_cons] at ha
      have hok := pNext_ok c t
      unfold mGo at h
      split at h
      · split at h
        · cases h
        · rename_i h3'
          exact ih t (a + 1) (done ++ [cur]) ms0 L (by omega) (by simp; omega) (fun s hs => by
            rcases List.mem_append.1 hs with hs | hs
            · exact hf s hs
            · rw [List.mem_singleton.1 hs]
              exact ⟨by omega, by omega, h3⟩) (Nat.zero_le _) (Nat.zero_le _) (fun p hp => by cases hp) h
      · split at h
        · cases h
        · split at h
          · cases h
          · rename_i h0
            have h0' : (pNext (c :: t)).2.2 = 0 := Decidable.not_not.1 h0
            obtain ⟨k1, k2⟩ := hok.2 h0'
            cases hp : pAdd cur (pNext (c :: t)).1 (decide (done.length = 3)) with
            | none => rw [hp] at h; cases h
            | some x =>
              rw [hp] at h
              obtain ⟨b1, b2⟩ := pAdd_bd hp
              refine ih _ _ done x L (by rw [List.length_drop, List.length_cons]; omega) hd hf (by omega) (by omega) (fun p hpm => ?_) h
              rw [pAdd_parts hp] at hpm
              rcases List.mem_append.1 hpm with hpm | hpm
              · exact h3 p hpm
              · rw [List.mem_singleton.1 hpm]
                exact hok.1.mono (by omega)
theorem parse_fine (s : Bs) (L : List MS) (h : mParse s = .inl L) : 1 ≤ L.length ∧ L.length ≤ 4 ∧ ∀ s ∈ L, s.parts.length ≤ 1000 ∧ s.percents ≤ 1000 ∧ ∀ p ∈ s.parts, p.ok 255 := by
  unfold mParse at h
  split at h
  · cases h
  · exact mGo_ok s.length s 0 [] ms0 L (by omega) (by decide) (fun _ hs => by cases hs) (Nat.zero_le _) (Nat.zero_le _) (fun _ hp => by cases hp) h
theorem hundred_right : ∀ (n : Nat) (x y : Int × Int), pRight x.1 x.2 = true → hundred n x = some y → pRight y.1 y.2 = true
  | 0, x, y, h, e => by
    unfold hundred at e
    injection e with e
    rw [← e]; exact h
  | n + 1, x, y, h, e => by
    unfold hundred at e
    cases hp : pNear (decide (x.1 < 0)) x.1.natAbs (x.2 + 2) with
    | none => rw [hp] at e; cases e
    | some z =>
      rw [hp] at e
      exact hundred_right n z y (pNear_right hp).1 e
theorem mNumber_len (x : MS) (m e : Int) (hR : pRight m e = true) (hx : x.parts.length ≤ 1000 ∧ x.percents ≤ 1000 ∧ ∀ p ∈ x.parts, p.ok 255) (hm : 1 ≤ m) : (mNumber [x] m e).length ≤ 4000000 := by
  have s1 : secOf [x] m = x := by
    unfold secOf
    rw [if_neg (by simp), if_neg (by simp), if_neg (by simp)]
    rfl
  unfold mNumber
  rw [s1]
  cases hh : hundred x.percents ((m.natAbs : Int), e) with
  | none => show numText.length ≤ 4000000; decide
  | some y =>
    have hy := hundred_right _ _ _ (pRight_abs m e hR) hh
    dsimp only
    rw [if_neg (show ¬ (m < 0 ∧ [x].length < 2 ∧ (x.parts.any fun p => partSome p y.1 y.2) = true) by omega)]
    have hg := gath_len x.parts y.1 y.2 hy hx.2.2 x.parts.length (Nat.le_refl _)
    rw [gath_all _ _ _ _ (Nat.le_refl _)] at hg
    have := hx.1
    omega
theorem mGo_err : ∀ (f : Nat) (l : Bs) (a : Nat) (done : List MS) (cur : MS) (q : Nat × Int), mGo f l a done cur = .inr q → q.2 = 6 ∨ q.2 = 10 ∨ q.2 = 13 := by
  intro f
  induction f with
  | zero => intro l a done cur q h; unfold mGo at h; cases h
  | succ f ih =>
    intro l a done cur q h
    cases l with
    | nil => unfold mGo at h; cases h
    | cons c t =>
      unfold mGo at h
      split at h
      · split at h
        · injection h with h; subst h; exact .inr (.inl rfl)
        · exact ih _ _ _ _ _ h
      · split at h
        · injection h with h; subst h; exact .inr (.inr rfl)
        · split at h
          · injection h with h; subst h; exact .inl rfl
          · cases hp : pAdd cur (pNext (c :: t)).1 (decide (done.length = 3)) with
            | none => rw [hp] at h; injection h with h; subst h; exact .inl rfl
            | some x => rw [hp] at h; exact ih _ _ _ _ _ h
theorem parse_errs (s : Bs) (q : Nat × Int) (h : mParse s = .inr q) : q.2 = 6 ∨ q.2 = 10 ∨ q.2 = 13 ∨ q.2 = 14 := by
  unfold mParse at h
  split at h
  · injection h with h; subst h; exact .inr (.inr (.inr rfl))
  · rcases mGo_err _ _ _ _ _ _ h with e | e | e
    · exact .inl e
    · exact .inr (.inl e)
    · exact .inr (.inr (.inl e))
end Go.Proofs.YteccjdclkcipbaaDoor
