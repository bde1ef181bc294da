/-
  Plain law: tokens that may be, joined, are read again as they were (faults, signs, the whole).
-/
import Derived.Test.YtcgdeoldgnjdeaaDoorPlainZ
namespace Go.Proofs.YtcgdeoldgnjdeaaDoor
open Go.RowKit

theorem isLetter_up (c : UInt8) : isLetter (up c) = isLetter c := by
  cases hl : isLow c
  · rw [up_other c hl]
  · have h1 := up_low c hl
    have h2 := (isLow_iff c).1 hl
    unfold isLetter
    rw [h1, decide_eq_false (by omega : ¬ 97 ≤ c.toNat - 32), decide_eq_true (by omega : 65 ≤ c.toNat - 32), decide_eq_true (by omega : c.toNat - 32 ≤ 90), decide_eq_true (by omega : 97 ≤ c.toNat), decide_eq_true (by omega : c.toNat ≤ 122)]
    simp
theorem faultB_shape : ∀ k, 1 ≤ k → k < 10 → (faultB k).take 1 = [35] ∧ 0 < runP isLetter ((faultB k).drop 1) ∧ ∃ c x, ((faultB k).drop 1).drop (runP isLetter ((faultB k).drop 1)) = c :: x ∧ (c = 47 ∨ c = 33 ∨ c = 63) := by
  intro k h1 h2
  match k, h1, h2 with
  | 1, _, _ => exact ⟨rfl, by decide, 47, _, rfl, by decide⟩
  | 2, _, _ => exact ⟨rfl, by decide, 33, _, rfl, by decide⟩
  | 3, _, _ => exact ⟨rfl, by decide, 33, _, rfl, by decide⟩
  | 4, _, _ => exact ⟨rfl, by decide, 63, _, rfl, by decide⟩
  | 5, _, _ => exact ⟨rfl, by decide, 33, _, rfl, by decide⟩
  | 6, _, _ => exact ⟨rfl, by decide, 47, _, rfl, by decide⟩
  | 7, _, _ => exact ⟨rfl, by decide, 33, _, rfl, by decide⟩
  | 8, _, _ => exact ⟨rfl, by decide, 33, _, rfl, by decide⟩
  | 9, _, _ => exact ⟨rfl, by decide, 33, _, rfl, by decide⟩
theorem runP_up (l : Bs) : runP isLetter (l.map up) = runP isLetter l := by
  induction l with
  | nil => rfl
  | cons c l ih => simp only [List.map_cons, runP, isLetter_up, ih]
/-- no fault begins so -/
theorem nofault (s : Bs) (h : s = [] ∨ ∃ A c x, s = A ++ c :: x ∧ (∀ d ∈ A, isLetter d = true) ∧ isLetter c = false ∧ (A = [] ∨ (c ≠ 47 ∧ c ≠ 33 ∧ c ≠ 63))) (k : Nat) (h1 : 1 ≤ k) (h2 : k < 10) : pFaultAt (35 :: s) k = false := by
  cases hp : pFaultAt (35 :: s) k
  · rfl
  exfalso
  unfold pFaultAt at hp
  simp only [Bool.and_eq_true, decide_eq_true_eq, beq_iff_eq] at hp
  obtain ⟨hle, heq⟩ := hp
  obtain ⟨g1, g2, c2, x2, g3, g4⟩ := faultB_shape k h1 h2
  have hF : faultB k = 35 :: (faultB k).drop 1 := by
    have := List.take_append_drop 1 (faultB k)
    rw [g1] at this
    exact this.symm
  have hlen : (faultB k).length = ((faultB k).drop 1).length + 1 := by rw [hF]; simp
  generalize (faultB k).drop 1 = F at *
  rw [hlen, List.take_succ_cons, hF] at heq
  have heq2 : (s.take F.length).map up = F := by
    unfold pFold at heq
    rw [List.map_cons] at heq
    injection heq
  have hn := congrArg (runP isLetter) heq2
  rw [runP_up, runP_take] at hn
  have hlt : runP isLetter F < F.length := by
    have := congrArg List.length g3
    rw [List.length_drop, List.length_cons] at this
    omega
  rcases h with rfl | ⟨A, c, x, rfl, hA, hc, hc2⟩
  · simp [runP] at hn
    omega
  · rw [runP_follow _ _ _ _ hc, runP_all _ _ hA] at hn
    have hn2 : A.length = runP isLetter F := by omega
    have hup : up c = c2 := by
      have h3 := congrArg (fun l : Bs => l[A.length]?) heq2
      have e1 : F[A.length]? = some c2 := by
        have := congrArg (fun l : Bs => l[0]?) g3
        simp only [List.getElem?_drop, Nat.add_zero, List.getElem?_cons_zero] at this
        rw [hn2]
        exact this
      rw [e1, List.getElem?_map, List.getElem?_take, if_pos (by omega), List.getElem?_append_right (Nat.le_refl _), Nat.sub_self] at h3
      simp only [List.getElem?_cons_zero, Option.map_some] at h3
      injection h3
    have hcc : c = c2 := by
      cases hl : isLow c
      · rw [up_other c hl] at hup; exact hup
      · have := isLetter_up c
        rw [hup, hc] at this
        have h4 := up_low c hl
        have h5 := (isLow_iff c).1 hl
        rw [hup] at h4
        rcases g4 with rfl | rfl | rfl
        · have : (47 : UInt8).toNat = 47 := rfl
          omega
        · have : (33 : UInt8).toNat = 33 := rfl
          omega
        · have : (63 : UInt8).toNat = 63 := rfl
          omega
    subst hcc
    rcases hc2 with rfl | ⟨q1, q2, q3⟩
    · simp at hn2; omega
    · rcases g4 with h | h | h
      · exact q1 h
      · exact q2 h
      · exact q3 h
theorem faultB_up : ∀ k, 1 ≤ k → k < 10 → pFold (faultB k) = faultB k ∧ 3 < (faultB k).length := by
  intro k h1 h2
  match k, h1, h2 with
  | 1, _, _ => exact ⟨by decide, by decide⟩
  | 2, _, _ => exact ⟨by decide, by decide⟩
  | 3, _, _ => exact ⟨by decide, by decide⟩
  | 4, _, _ => exact ⟨by decide, by decide⟩
  | 5, _, _ => exact ⟨by decide, by decide⟩
  | 6, _, _ => exact ⟨by decide, by decide⟩
  | 7, _, _ => exact ⟨by decide, by decide⟩
  | 8, _, _ => exact ⟨by decide, by decide⟩
  | 9, _, _ => exact ⟨by decide, by decide⟩
theorem faultB_three : ∀ k, k < 10 → ∀ j, j < 10 → 1 ≤ k → 1 ≤ j → (faultB j).take 3 = (faultB k).take 3 → j = k := by decide
theorem fault_self (k : Nat) (r : Bs) (h1 : 1 ≤ k) (h2 : k < 10) : pFaultB (faultB k ++ r) = faultB k := by
  obtain ⟨u1, u2⟩ := faultB_up k h1 h2
  refine fault_found _ k h1 h2 ?_ (fun j j1 j2 => ?_)
  · unfold pFaultAt
    rw [List.take_left, u1, decide_eq_true (by simp)]
    simp
  · cases hp : pFaultAt (faultB k ++ r) j
    · rfl
    · exfalso
      unfold pFaultAt at hp
      simp only [Bool.and_eq_true, decide_eq_true_eq, beq_iff_eq] at hp
      obtain ⟨_, heq⟩ := hp
      obtain ⟨v1, v2⟩ := faultB_up j j1 (by omega)
      have h3 : (faultB j).take 3 = (faultB k).take 3 := by
        rw [← heq]
        unfold pFold
        rw [← List.map_take, List.take_take, Nat.min_eq_left (by omega), List.take_append_of_le_length (by omega), List.map_take]
        exact congrArg (List.take 3) u1
      have := faultB_three k h2 j (by omega) h1 j1 h3
      omega
theorem faultB_head2 (k : Nat) (h1 : 1 ≤ k) (h2 : k < 10) : ∃ x, faultB k = 35 :: x := by
  have h := faultB_head k h1 h2
  cases he : faultB k with
  | nil => rw [he] at h; cases h
  | cons c x => rw [he] at h; injection h with h; subst h; exact ⟨x, rfl⟩
theorem pToken_fault (k : Nat) (r : Bs) (h1 : 1 ≤ k) (h2 : k < 10) : pToken (faultB k ++ r) = (6, faultB k, (faultB k).length) := by
  have hs := fault_self k r h1 h2
  obtain ⟨x, hx⟩ := faultB_head2 k h1 h2
  have hl := (faultB_up k h1 h2).2
  unfold pToken
  rw [hs, if_pos (by omega : 0 < (faultB k).length)]
  rw [hx, List.cons_append, pNumber_none 35 _ rfl (by decide), if_neg (by omega), if_neg (by simp only [atIs_cons, letter0]; decide), if_neg (by rw [atIs_cons]; decide)]
theorem pFaultB_other (c : UInt8) (l : Bs) (h : c ≠ 35) : pFaultB (c :: l) = [] := by
  unfold pFaultB pFault
  rw [atIs_cons, beq_eq_false_iff_ne.2 h]
  rfl
theorem pToken_first (c : UInt8) (l : Bs) (hc : c ∈ signs1) (hF : pFaultB (c :: l) = []) : pToken (c :: l) = if 0 < pSign (c :: l) then (5, (c :: l).take (pSign (c :: l)), pSign (c :: l)) else (0, [], 0) := by
  have key : ∀ c ∈ signs1, isDigit c = false ∧ c ≠ 46 ∧ (isLetter c || c == 95 || c == 36) = false ∧ (c == 34) = false := by decide
  obtain ⟨k1, k2, k3, k4⟩ := key c hc
  unfold pToken
  rw [pNumber_none c l k1 k2, if_neg (by omega), if_neg (by rw [atIs_cons, atIs_cons]; show ¬ (isLetter c || c == 95 || c == 36) = true; rw [k3]; decide), if_neg (by rw [atIs_cons, k4]; decide), hF, if_neg (by simp)]
theorem pSign_one (c : UInt8) (r : Bs) (hc : c ∈ signs1) (h1 : c = 60 → Hd (fun d => d != 61 && d != 62) r) (h2 : c = 62 → Hd (fun d => d != 61) r) : pSign (c :: r) = 1 := by
  have hp : ∀ a b : UInt8, Lib.hasPrefix (c :: r) [a, b] = (c == a && atIs r 0 b) := by
    intro a b
    unfold Lib.hasPrefix atIs
    cases r with
    | nil => simp [List.isPrefixOf]
    | cons d r =>
      simp only [List.isPrefixOf, Bool.and_true, List.getElem?_cons_zero]
      rw [Bool.eq_iff_iff, Bool.and_eq_true, Bool.and_eq_true, beq_iff_eq, beq_iff_eq, beq_iff_eq, beq_iff_eq]
      constructor
      · rintro ⟨rfl, rfl⟩; exact ⟨rfl, rfl⟩
      · rintro ⟨rfl, h⟩; injection h with h; exact ⟨rfl, h.symm⟩
  have hno : ∀ b : UInt8, (∀ d x, r = d :: x → d ≠ b) → atIs r 0 b = false := by
    intro b hb
    cases r with
    | nil => rfl
    | cons d x => rw [atIs_cons]; exact beq_eq_false_iff_ne.2 (hb d x rfl)
  unfold pSign
  rw [hp, hp, hp, if_neg, if_pos]
  · exact idx_mem _ _ (by simpa using hc)
  · intro h
    simp only [Bool.or_eq_true, Bool.and_eq_true, beq_iff_eq] at h
    rcases h with (⟨e, h⟩ | ⟨e, h⟩) | ⟨e, h⟩
    · rw [hno 62 (fun d x hx hd => by have := h1 e d x hx; rw [hd] at this; cases this)] at h; cases h
    · rw [hno 61 (fun d x hx hd => by have := h1 e d x hx; rw [hd] at this; cases this)] at h; cases h
    · rw [hno 61 (fun d x hx hd => by have := h2 e d x hx; rw [hd] at this; cases this)] at h; cases h
theorem signs_forms0 : ∀ t ∈ signsL, (t = [t.headD 0] ∧ t.headD 0 ∈ signs1) ∨ t = [60, 62] ∨ t = [60, 61] ∨ t = [62, 61] := by decide
theorem signs_forms (t : Bs) (h : t ∈ signsL) : (∃ c, t = [c] ∧ c ∈ signs1) ∨ t = [60, 62] ∨ t = [60, 61] ∨ t = [62, 61] := by
  rcases signs_forms0 t h with ⟨h1, h2⟩ | h
  · exact .inl ⟨_, h1, h2⟩
  · exact .inr h
theorem pToken_sign (t r : Bs) (ht : t ∈ signsL) (h1 : t = [60] → Hd (fun d => d != 61 && d != 62) r) (h2 : t = [62] → Hd (fun d => d != 61) r) (h3 : t = [35] → ∀ k, 1 ≤ k → k < 10 → pFaultAt (35 :: r) k = false) :
    pToken (t ++ r) = (5, t, t.length) := by
  rcases signs_forms t ht with ⟨c, rfl, hc⟩ | rfl | rfl | rfl
  · have hF : pFaultB (c :: r) = [] := by
      by_cases e : c = 35
      · subst e; exact fault_none _ (h3 rfl)
      · exact pFaultB_other c r e
    have hs := pSign_one c r hc (fun e => h1 (by rw [e])) (fun e => h2 (by rw [e]))
    rw [List.singleton_append, pToken_first c r hc hF, hs]
    rfl
  all_goals
    rw [List.cons_append, List.cons_append, List.nil_append, pToken_first _ _ (by decide) (pFaultB_other _ _ (by decide))]
    unfold pSign Lib.hasPrefix
    simp only [List.isPrefixOf]
    rfl
/-- may a token be? -/
def MayT (a : Nat × Bs) : Prop :=
  (a.1 = 1 ∧ rIsNumber a.2 = true) ∨ a.1 = 2 ∨ (a.1 = 3 ∧ rIsName a.2 = true) ∨ (a.1 = 4 ∧ pMark a.2 = true) ∨ (a.1 = 5 ∧ a.2 ∈ signsL) ∨ (a.1 = 6 ∧ ∃ i, 1 ≤ i ∧ i < 10 ∧ a.2 = faultB i)
/-- what a token is joined as -/
def outB (a : Nat × Bs) : Bs := if a.1 = 2 then 34 :: (quoteB a.2 ++ [34]) else a.2
def wordK (k : Nat) : Bool := k == 1 || k == 3 || k == 4
def begK (b : Nat × Bs) (set : Bs) : Bool := b.1 == 5 && !b.2.isEmpty && set.contains (b.2.headD 0)
/-- does a blank stand between two tokens? -/
def apartB (a b : Nat × Bs) : Bool :=
  if wordK a.1 then wordK b.1 else if a.1 == 2 then b.1 == 2 else if a.1 != 5 then false
  else if a.2 == [60] then begK b [61, 62] else if a.2 == [62] then begK b [61] else if a.2 == [35] then b.1 == 3 else false
/-- what a token that may be begins with -/
theorem out_head (b : Nat × Bs) (h : MayT b) : ∃ c x, outB b = c :: x ∧
    ((b.1 = 1 ∧ (isDigit c = true ∨ c = 46)) ∨ (b.1 = 2 ∧ c = 34) ∨ ((b.1 = 3 ∨ b.1 = 4) ∧ (isLetter c || c == 95 || c == 36) = true) ∨ (b.1 = 5 ∧ b.2 = c :: x ∧ c ∈ signs1) ∨ (b.1 = 6 ∧ c = 35)) := by
  obtain ⟨k, t⟩ := b
  rcases h with ⟨rfl, h⟩ | rfl | ⟨rfl, h⟩ | ⟨rfl, h⟩ | ⟨rfl, h⟩ | ⟨rfl, i, i1, i2, h⟩
  · rw [rIsNumber_eq] at h
    simp only [Bool.and_eq_true, decide_eq_true_eq] at h
    cases t with
    | nil => simp at h
    | cons c x =>
      refine ⟨c, x, rfl, .inl ⟨rfl, ?_⟩⟩
      cases hd : isDigit c
      · refine .inr (Classical.byContradiction fun h46 => ?_)
        rw [pNumber_none c x hd h46] at h
        omega
      · exact .inl rfl
  · exact ⟨34, _, rfl, .inr (.inl ⟨rfl, rfl⟩)⟩
  · obtain ⟨c, x, hx, hc⟩ := wordy_first _ (name_parts _ h).1
    exact ⟨c, x, hx, .inr (.inr (.inl ⟨.inl rfl, hc⟩))⟩
  · obtain ⟨c, x, hx, hc⟩ := wordy_first _ (mark_wordy _ h).1
    exact ⟨c, x, hx, .inr (.inr (.inl ⟨.inr rfl, hc⟩))⟩
  · have key : ∀ t ∈ signsL, ∃ c x, t = c :: x ∧ c ∈ signs1 := by
      intro t ht
      rcases signs_forms t ht with ⟨c, rfl, hc⟩ | rfl | rfl | rfl
      · exact ⟨c, [], rfl, hc⟩
      all_goals exact ⟨_, _, rfl, by decide⟩
    obtain ⟨c, x, hx, hc⟩ := key t h
    exact ⟨c, x, hx, .inr (.inr (.inr (.inl ⟨rfl, hx, hc⟩)))⟩
  · obtain ⟨x, hx⟩ := faultB_head2 i i1 i2
    exact ⟨35, x, h.trans hx, .inr (.inr (.inr (.inr ⟨rfl, rfl⟩)))⟩
/-- what may follow a token -/
def Nxt (a : Nat × Bs) (r : Bs) : Prop := r = [] ∨ (∃ x, r = 32 :: x) ∨ ∃ b x, MayT b ∧ apartB a b = false ∧ r = outB b ++ x
theorem nxt_head {a : Nat × Bs} {r : Bs} (h : Nxt a r) (q : UInt8 → Bool) (h32 : q 32 = true)
    (hb : ∀ b c x, MayT b → apartB a b = false → outB b = c :: x → ((b.1 = 1 ∧ (isDigit c = true ∨ c = 46)) ∨ (b.1 = 2 ∧ c = 34) ∨ ((b.1 = 3 ∨ b.1 = 4) ∧ (isLetter c || c == 95 || c == 36) = true) ∨ (b.1 = 5 ∧ b.2 = c :: x ∧ c ∈ signs1) ∨ (b.1 = 6 ∧ c = 35)) → q c = true) : Hd q r := by
  intro c y hc
  rcases h with rfl | ⟨x, rfl⟩ | ⟨b, x, hm, ha, rfl⟩
  · cases hc
  · injection hc with h1 h2; rw [← h1]; exact h32
  · obtain ⟨d, z, hd, hf⟩ := out_head b hm
    rw [hd, List.cons_append] at hc
    injection hc with h1 h2
    rw [← h1]
    exact hb b d z hm ha hd hf
theorem word_apart {a b : Nat × Bs} (hw : wordK a.1 = true) (h : apartB a b = false) : wordK b.1 = false := by
  unfold apartB at h
  rw [if_pos hw] at h
  exact h
theorem two_ne (c : UInt8) (h1 : c ≠ 61) (h2 : c ≠ 62) : (c != 61 && c != 62) = true := by simp [h1, h2]
theorem pToken_may (a : Nat × Bs) (r : Bs) (h : MayT a) (hr : Nxt a r) : pToken (outB a ++ r) = (a.1, a.2, (outB a).length) := by
  have sg : ∀ c ∈ signs1, numEnd c = true ∧ isWord c = false := by decide
  obtain ⟨k, t⟩ := a
  have wd : wordK k = true → Hd (fun c => numEnd c && !isWord c) r := by
    intro hw
    refine nxt_head hr _ (by decide) (fun b c x _ ha _ hf => ?_)
    have hn := word_apart (a := (k, t)) hw ha
    rcases hf with ⟨e, _⟩ | ⟨e, rfl⟩ | ⟨e | e, _⟩ | ⟨e, _, hc⟩ | ⟨e, rfl⟩
    · rw [e] at hn; cases hn
    · decide
    · rw [e] at hn; cases hn
    · rw [e] at hn; cases hn
    · rw [(sg c hc).1, (sg c hc).2]; rfl
    · decide
  have w1 : wordK k = true → Hd numEnd r := fun hw c x hc => by have := wd hw c x hc; simp only [Bool.and_eq_true] at this; exact this.1
  have w2 : wordK k = true → Hd (fun c => !isWord c) r := fun hw c x hc => by have := wd hw c x hc; simp only [Bool.and_eq_true] at this; exact this.2
  rcases h with ⟨rfl, h⟩ | rfl | ⟨rfl, h⟩ | ⟨rfl, h⟩ | ⟨rfl, h⟩ | ⟨rfl, i, i1, i2, h⟩
  · exact pToken_number t r h (w1 rfl)
  · have hq : Hd (fun c => c != 34) r := by
      refine nxt_head hr _ (by decide) (fun b c x _ ha _ hf => ?_)
      have hn : (b.1 == 2) = false := ha
      rcases hf with ⟨e, hc | rfl⟩ | ⟨e, _⟩ | ⟨_, hc⟩ | ⟨e, _, hc⟩ | ⟨e, rfl⟩
      · rw [bne_iff_ne]; intro e; rw [e] at hc; cases hc
      · decide
      · rw [e] at hn; cases hn
      · rw [bne_iff_ne]; exact (word_nodigit c hc).2.2.2
      · rw [bne_iff_ne]; intro e; rw [e] at hc; revert hc; decide
      · decide
    show pToken (34 :: (quoteB t ++ [34]) ++ r) = (2, t, (34 :: (quoteB t ++ [34])).length)
    rw [List.cons_append, pToken_quote, List.append_assoc]
    unfold pQuoted
    rw [List.drop_succ_cons, List.drop_zero, List.singleton_append, pText_quote t r (fun x hx => by have := hq 34 x hx; cases this)]
    simp
  · obtain ⟨n1, n2, n3, n4⟩ := name_parts t h
    show pToken (t ++ r) = (3, t, t.length)
    rw [pToken_word t r n2 n1 (w2 rfl), n3, if_neg (by decide), if_pos n4]
  · obtain ⟨n1, n2⟩ := mark_wordy t h
    show pToken (t ++ r) = (4, t, t.length)
    rw [pToken_word t r n2 n1 (w2 rfl), if_pos h]
  · show pToken (t ++ r) = (5, t, t.length)
    refine pToken_sign t r h (fun e => ?_) (fun e => ?_) (fun e => ?_)
    · subst e
      refine nxt_head hr _ (by decide) (fun b c x _ ha _ hf => ?_)
      have hn : begK b [61, 62] = false := ha
      rcases hf with ⟨e, hc | rfl⟩ | ⟨e, rfl⟩ | ⟨_, hc⟩ | ⟨e, h2, hc⟩ | ⟨e, rfl⟩
      · exact two_ne c (fun e => by rw [e] at hc; cases hc) (fun e => by rw [e] at hc; cases hc)
      · decide
      · decide
      · exact two_ne c (fun e => by rw [e] at hc; cases hc) (fun e => by rw [e] at hc; cases hc)
      · unfold begK at hn
        rw [e, h2] at hn
        simp at hn
        simp [hn]
      · decide
    · subst e
      refine nxt_head hr _ (by decide) (fun b c x _ ha _ hf => ?_)
      have hn : begK b [61] = false := ha
      rcases hf with ⟨e, hc | rfl⟩ | ⟨e, rfl⟩ | ⟨_, hc⟩ | ⟨e, h2, hc⟩ | ⟨e, rfl⟩
      · rw [bne_iff_ne]; intro e; rw [e] at hc; cases hc
      · decide
      · decide
      · rw [bne_iff_ne]; intro e; rw [e] at hc; cases hc
      · unfold begK at hn
        rw [e, h2] at hn
        simp at hn
        simp [hn]
      · decide
    · subst e
      refine nofault r ?_
      rcases hr with rfl | ⟨x, rfl⟩ | ⟨b, x, hm, ha, rfl⟩
      · exact .inl rfl
      · exact .inr ⟨[], 32, x, rfl, fun d hd => by simp at hd, by decide, .inl rfl⟩
      · have hn : (b.1 == 3) = false := ha
        obtain ⟨c, y, hc, hf⟩ := out_head b hm
        by_cases h4 : b.1 = 4
        · have hmk : pMark b.2 = true := by
            rcases hm with ⟨e, _⟩ | e | ⟨e, _⟩ | ⟨_, h⟩ | ⟨e, _⟩ | ⟨e, _⟩
            · omega
            · omega
            · omega
            · exact h
            · omega
            · omega
          have ho : outB b = b.2 := if_neg (by omega)
          obtain ⟨fc, A, R, hl, hA, hR⟩ := mark_parts b.2 hmk
          rw [ho, hl]
          cases fc
          · rcases hR with ⟨_, h⟩ | ⟨fr, D, rfl, d1, d2, _⟩
            · cases h
            · cases fr
              · cases D with
                | nil => exact absurd rfl d1
                | cons z D =>
                  have hz := d2 z (by simp)
                  refine .inr ⟨A, z, D ++ x, by simp [dolB], hA, ?_, .inr ⟨?_, ?_, ?_⟩⟩
                  · rw [isDigit_iff] at hz
                    unfold isLetter
                    rw [decide_eq_false (by omega : ¬ 97 ≤ z.toNat), decide_eq_false (by omega : ¬ 65 ≤ z.toNat)]
                    rfl
                  all_goals intro e; rw [e] at hz; cases hz
              · exact .inr ⟨A, 36, D ++ x, by simp [dolB], hA, by decide, .inr (by decide)⟩
          · exact .inr ⟨[], 36, A ++ R ++ x, by simp [dolB], fun d hd => by simp at hd, by decide, .inl rfl⟩
        · refine .inr ⟨[], c, y ++ x, by rw [hc]; rfl, fun d hd => by simp at hd, ?_, .inl rfl⟩
          rcases hf with ⟨e, hd | rfl⟩ | ⟨e, rfl⟩ | ⟨e | e, _⟩ | ⟨e, h2, hd⟩ | ⟨e, rfl⟩
          · rw [isDigit_iff] at hd
            unfold isLetter
            rw [decide_eq_false (by omega : ¬ 97 ≤ c.toNat), decide_eq_false (by omega : ¬ 65 ≤ c.toNat)]
            rfl
          · decide
          · decide
          · rw [e] at hn; cases hn
          · exact absurd e h4
          · have key : ∀ c ∈ signs1, isLetter c = false := by decide
            exact key c hd
          · decide
  · show pToken (t ++ r) = (6, t, t.length)
    have h' : t = faultB i := h
    rw [h']
    exact pToken_fault i r i1 i2
/-- tokens joined -/
def joinB : List (Nat × Bs) → Bs
  | [] => []
  | [a] => outB a
  | a :: b :: r => outB a ++ ((if apartB a b then [32] else []) ++ joinB (b :: r))
theorem joinB_out (b : Nat × Bs) (r : List (Nat × Bs)) : ∃ x, joinB (b :: r) = outB b ++ x := by
  cases r with
  | nil => exact ⟨[], by simp [joinB]⟩
  | cons c r => exact ⟨_, rfl⟩
theorem out_no32 (b : Nat × Bs) (h : MayT b) : ∃ c x, outB b = c :: x ∧ c ≠ 32 := by
  obtain ⟨c, x, hx, hf⟩ := out_head b h
  refine ⟨c, x, hx, ?_⟩
  rcases hf with ⟨e, hc | rfl⟩ | ⟨e, rfl⟩ | ⟨_, hc⟩ | ⟨e, h2, hc⟩ | ⟨e, rfl⟩
  · intro e; rw [e] at hc; cases hc
  · decide
  · decide
  · exact (word_nodigit c hc).2.2.1
  · intro e; rw [e] at hc; revert hc; decide
  · decide
theorem lex_one (a : Nat × Bs) (r : Bs) (k : Nat) (h : MayT a) (hr : Nxt a r) : lexFrom (outB a ++ r) k = consTok ⟨a.1, a.2, k⟩ (lexFrom r (k + (outB a).length)) := by
  have ht := pToken_may a r h hr
  obtain ⟨c, x, hx, hc⟩ := out_no32 a h
  have hd : (outB a ++ r).drop (outB a).length = r := List.drop_left
  have hl : (outB a).length ≠ 0 := by rw [hx]; simp
  generalize outB a = o at *
  subst hx
  rw [List.cons_append] at ht ⊢
  rw [lexFrom_tok c _ k hc (by rw [ht]; exact hl), ht]
  simp only
  rw [← List.cons_append, hd]
theorem lex_join : ∀ (ts : List (Nat × Bs)) (k : Nat), (∀ t ∈ ts, MayT t) → ∃ us, lexFrom (joinB ts) k = .ok us ∧ us.map (fun u => (u.kind, u.text)) = ts
  | [], k, _ => ⟨[], rfl, rfl⟩
  | [a], k, h => by
    refine ⟨[⟨a.1, a.2, k⟩], ?_, rfl⟩
    have := lex_one a [] k (h a (by simp)) (.inl rfl)
    rw [List.append_nil] at this
    show lexFrom (outB a) k = _
    rw [this, lexFrom_nil]
    rfl
  | a :: b :: r, k, h => by
    have ha := h a (by simp)
    have hb := h b (by simp)
    obtain ⟨x, hx⟩ := joinB_out b r
    cases hp : apartB a b
    · obtain ⟨us, h1, h2⟩ := lex_join (b :: r) (k + (outB a).length) (fun t ht => h t (by simp [List.mem_cons.1 ht]))
      refine ⟨⟨a.1, a.2, k⟩ :: us, ?_, by simp [h2]⟩
      show lexFrom (outB a ++ ((if apartB a b then [32] else []) ++ joinB (b :: r))) k = _
      rw [hp, if_neg (by decide), List.nil_append, lex_one a _ k ha (.inr (.inr ⟨b, x, hb, hp, hx⟩)), h1]
      rfl
    · obtain ⟨us, h1, h2⟩ := lex_join (b :: r) (k + (outB a).length + 1) (fun t ht => h t (by simp [List.mem_cons.1 ht]))
      refine ⟨⟨a.1, a.2, k⟩ :: us, ?_, by simp [h2]⟩
      show lexFrom (outB a ++ ((if apartB a b then [32] else []) ++ joinB (b :: r))) k = _
      rw [hp, if_pos rfl, List.singleton_append, lex_one a _ k ha (.inr (.inl ⟨_, rfl⟩)), lexFrom_blank, h1]
      rfl
/-! A text's tokens may be -/
theorem prefix_take (l t : Bs) (h : Lib.hasPrefix l t = true) : l.take t.length = t := by
  unfold Lib.hasPrefix at h
  rw [List.isPrefixOf_iff_prefix] at h
  exact (List.prefix_iff_eq_take.1 h).symm
theorem sign_take (l : Bs) (h : 0 < pSign l) (hp : 0 < l.length) : l.take (pSign l) ∈ signsL := by
  unfold pSign at h ⊢
  by_cases h2 : (Lib.hasPrefix l [60, 62] || Lib.hasPrefix l [60, 61] || Lib.hasPrefix l [62, 61]) = true
  · rw [if_pos h2]
    simp only [Bool.or_eq_true] at h2
    rcases h2 with (h2 | h2) | h2
    all_goals
      have := prefix_take _ _ h2
      simp only [List.length_cons, List.length_nil] at this
      rw [this]
      decide
  · rw [if_neg h2] at h ⊢
    by_cases h1 : 0 ≤ Lib.indexByte signs1 (l.headD 0)
    · rw [if_pos h1]
      have hm := mem_idx _ _ h1
      cases l with
      | nil => simp at hp
      | cons c r =>
        have key : ∀ c ∈ signs1, [c] ∈ signsL := by decide
        exact key c (by simpa using hm)
    · rw [if_neg h1] at h
      omega
theorem pText_len (l : Bs) : ∀ x, pText l = some x → (quoteB x.1).length + 1 = x.2 := by
  have key : ∀ n (l : Bs), l.length ≤ n → ∀ x, pText l = some x → (quoteB x.1).length + 1 = x.2 := by
    intro n
    induction n with
    | zero => intro l hl x hx; cases l with
      | nil => simp [pText] at hx
      | cons c l => simp at hl
    | succ n ih =>
      intro l hl x hx
      match l, hl, hx with
      | [], _, hx => simp [pText] at hx
      | [c], _, hx =>
        simp only [pText] at hx
        split at hx
        · injection hx with hx; subst hx; rfl
        · cases hx
      | c :: d :: l, hl, hx =>
        simp only [pText] at hx
        simp only [List.length_cons] at hl
        split at hx
        · split at hx
          · cases hy : pText l with
            | none => rw [hy] at hx; cases hx
            | some y =>
              rw [hy] at hx
              injection hx with hx
              have := ih l (by omega) y hy
              subst hx
              simp only [quoteB, if_true, List.length_cons]
              omega
          · injection hx with hx; subst hx; rfl
        · rename_i hc
          cases hy : pText (d :: l) with
          | none => rw [hy] at hx; cases hx
          | some y =>
            rw [hy] at hx
            injection hx with hx
            have := ih (d :: l) (by simp only [List.length_cons]; omega) y hy
            subst hx
            simp only [quoteB]
            rw [if_neg hc, List.length_cons]
            omega
  exact key l.length l (Nat.le_refl _)
theorem fault_in (l : Bs) (h : 0 < (pFaultB l).length) : ∃ i, 1 ≤ i ∧ i < 10 ∧ pFaultB l = faultB i := by
  unfold pFaultB at h ⊢
  cases hp : pFault l with
  | none => rw [hp] at h; simp at h
  | some k =>
    refine ⟨k, ?_, ?_, rfl⟩
    all_goals
      unfold pFault at hp
      split at hp
      · have := List.mem_of_find?_eq_some hp
        simp only [List.mem_range'_1] at this
        omega
      · cases hp
/-- the token that a text begins with may be, and takes as many bytes as it is joined to -/
theorem pToken_gives (l : Bs) (hp : 0 < l.length) (h0 : (pToken l).2.2 ≠ 0) : MayT ((pToken l).1, (pToken l).2.1) ∧ (outB ((pToken l).1, (pToken l).2.1)).length = (pToken l).2.2 := by
  unfold pToken at h0 ⊢
  by_cases h1 : 0 < pNumber l
  · rw [if_pos h1]
    have hle := pNumber_le l
    have hlen : (l.take (pNumber l)).length = pNumber l := by rw [List.length_take]; omega
    refine ⟨.inl ⟨rfl, ?_⟩, hlen⟩
    show rIsNumber (l.take (pNumber l)) = true
    rw [rIsNumber_eq, hlen, number_take_self, decide_eq_true h1, decide_eq_true rfl]
    rfl
  rw [if_neg h1] at h0 ⊢
  by_cases h2 : (letter0 l || atIs l 0 95 || atIs l 0 36) = true
  · rw [if_pos h2] at h0 ⊢
    have hle := runP_le isWord l
    have hlen : (l.take (runP isWord l)).length = runP isWord l := by rw [List.length_take]; omega
    have hnm := rIsName_take l h2
    unfold pWord at h0 ⊢
    by_cases h3 : pMark (l.take (runP isWord l)) = true
    · rw [if_pos h3]
      exact ⟨.inr (.inr (.inr (.inl ⟨rfl, h3⟩))), hlen⟩
    · rw [if_neg h3] at h0 ⊢
      by_cases h4 : dollars (l.take (runP isWord l)) = 0
      · rw [if_pos h4]
        refine ⟨.inr (.inr (.inl ⟨rfl, ?_⟩)), hlen⟩
        show rIsName (l.take (runP isWord l)) = true
        rw [hnm, decide_eq_true h4]
        simp only [Bool.not_eq_true] at h3
        rw [h3]
        rfl
      · rw [if_neg h4] at h0
        exact absurd rfl h0
  rw [if_neg h2] at h0 ⊢
  by_cases h3 : atIs l 0 34 = true
  · rw [if_pos h3] at h0 ⊢
    unfold pQuoted at h0 ⊢
    cases hq : pText (l.drop 1) with
    | none => rw [hq] at h0; exact absurd rfl h0
    | some x =>
      refine ⟨.inr (.inl rfl), ?_⟩
      have := pText_len _ x hq
      show (34 :: (quoteB x.1 ++ [34])).length = x.2 + 1
      simp
      omega
  rw [if_neg h3] at h0 ⊢
  by_cases h4 : 0 < (pFaultB l).length
  · rw [if_pos h4]
    obtain ⟨i, i1, i2, hi⟩ := fault_in l h4
    exact ⟨.inr (.inr (.inr (.inr (.inr ⟨rfl, i, i1, i2, hi⟩)))), rfl⟩
  rw [if_neg h4] at h0 ⊢
  by_cases h5 : 0 < pSign l
  · rw [if_pos h5]
    have hle := pSign_le l hp
    refine ⟨.inr (.inr (.inr (.inr (.inl ⟨rfl, sign_take l h5 hp⟩)))), ?_⟩
    show (l.take (pSign l)).length = pSign l
    rw [List.length_take]
    omega
  · rw [if_neg h5] at h0
    exact absurd rfl h0
def outLen (ts : List (Nat × Bs)) : Nat := (ts.map fun t => (outB t).length).sum
def kt (t : Tok) : Nat × Bs := (t.kind, t.text)
theorem lexGo_may : ∀ (f : Nat) (l : Bs) (k : Nat) (ts : List Tok), l.length ≤ f → lexGo f l k = .ok ts → (∀ t ∈ ts, MayT (kt t)) ∧ outLen (ts.map kt) ≤ l.length
  | 0, l, k, ts, hf, h => by
    injection h with h
    subst h
    exact ⟨fun t ht => by simp at ht, Nat.zero_le _⟩
  | f + 1, [], k, ts, hf, h => by
    injection h with h
    subst h
    exact ⟨fun t ht => by simp at ht, Nat.zero_le _⟩
  | f + 1, c :: r, k, ts, hf, h => by
    simp only [List.length_cons] at hf
    rw [lexGo] at h
    by_cases h32 : c = 32
    · rw [if_pos h32] at h
      obtain ⟨i1, i2⟩ := lexGo_may f r (k + 1) ts (by omega) h
      exact ⟨i1, by rw [List.length_cons]; omega⟩
    rw [if_neg h32] at h
    by_cases h0 : (pToken (c :: r)).2.2 = 0
    · rw [if_pos h0] at h; cases h
    rw [if_neg h0] at h
    obtain ⟨g1, g2⟩ := pToken_gives (c :: r) (by simp) h0
    have hle := pToken_le (c :: r) (by simp)
    generalize pToken (c :: r) = p at *
    cases hm : lexGo f ((c :: r).drop p.2.2) (k + p.2.2) with
    | error e => rw [hm] at h; cases h
    | ok us =>
      rw [hm] at h
      injection h with h
      subst h
      obtain ⟨i1, i2⟩ := lexGo_may f _ _ us (by rw [List.length_drop, List.length_cons]; omega) hm
      rw [List.length_drop] at i2
      refine ⟨fun t ht => ?_, ?_⟩
      · rcases List.mem_cons.1 ht with rfl | ht
        · exact g1
        · exact i1 t ht
      · show (outB (p.1, p.2.1)).length + outLen (us.map kt) ≤ _
        omega
theorem out_pos (t : Nat × Bs) (h : MayT t) : 0 < (outB t).length := by
  obtain ⟨c, x, hx, _⟩ := out_no32 t h
  rw [hx]
  simp
theorem joinB_len : ∀ (ts : List (Nat × Bs)), (∀ t ∈ ts, MayT t) → (joinB ts).length ≤ 2 * outLen ts
  | [], _ => Nat.zero_le _
  | [a], h => by
    show (outB a).length ≤ 2 * ((outB a).length + 0)
    omega
  | a :: b :: r, h => by
    have i := joinB_len (b :: r) (fun t ht => h t (by simp [List.mem_cons.1 ht]))
    have ha := out_pos a (h a (by simp))
    have e1 : outLen (a :: b :: r) = (outB a).length + outLen (b :: r) := rfl
    have e2 : joinB (a :: b :: r) = outB a ++ ((if apartB a b then [32] else []) ++ joinB (b :: r)) := rfl
    have e3 : (if apartB a b = true then ([32] : Bs) else []).length ≤ 1 := by split <;> simp
    rw [e1, e2, List.length_append, List.length_append]
    omega
end Go.Proofs.YtcgdeoldgnjdeaaDoor
