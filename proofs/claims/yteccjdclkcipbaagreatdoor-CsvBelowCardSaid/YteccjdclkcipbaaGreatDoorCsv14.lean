/-
  csv in plain words: what is written is read again; what is read is right; the greatest arrays.
-/
import Derived.Test.YteccjdclkcipbaaGreatDoorCsv9
import Derived.Test.YteccjdclkcipbaaGreatDoorCsv3
import Derived.Test.YteccjdclkcipbaaGreatDoorRefC
namespace Go.Proofs.YteccjdclkcipbaaGreatDoor
open Go.RowKit

theorem meant_nil : vMeant [] = (⟨0, 0, 0, [], false, 0⟩, true) := if_pos rfl
theorem qRun_back (c : UInt8) (r : Bs) (hc : c = 44 ∨ c = 10) : ∀ (w acc : Bs), qRun acc (quoteB w ++ 34 :: c :: r) = (acc ++ w, c :: r, 0)
  | [], acc => by
    rw [show quoteB ([] : Bs) = [] from rfl, List.nil_append, qRun_quote, if_neg (by rintro rfl; rcases hc with h | h <;> cases h), if_pos hc, List.append_nil]
  | d :: w, acc => by
    by_cases hd : d = 34
    · subst hd
      have e : quoteB (34 :: w) = 34 :: 34 :: quoteB w := if_pos rfl
      rw [e, List.cons_append, List.cons_append, qRun_quote, if_pos rfl, qRun_back c r hc w]
      simp
    · have e : quoteB (d :: w) = d :: quoteB w := if_neg hd
      rw [e, List.cons_append, qRun_other _ _ _ hd, qRun_back c r hc w]
      simp
/-- a field that was written is read as its word -/
theorem cField_out (w r : Bs) (c : UInt8) (hc : c = 44 ∨ c = 10) : cField (cOut w ++ c :: r) = (w, c :: r, 0) := by
  unfold cOut
  split
  · unfold cField
    have e : (34 :: (quoteB w ++ [34]) ++ c :: r) = 34 :: (quoteB w ++ 34 :: c :: r) := by simp
    rw [e, if_pos (by rfl)]
    show qRun [] (quoteB w ++ 34 :: c :: r) = _
    rw [qRun_back c r hc w, List.nil_append]
  · next hu =>
    have hul : uLen w = w.length := by have := uLen_le w; omega
    have hns : ∀ (k : Nat) (h : k < w.length), isSep w[k] = false := fun k h => by
      have := runP_lt (fun c => !isSep c) w k (by show k < uLen w; omega) h
      simpa using this
    have hall : ∀ x ∈ w, (fun c => !isSep c) x = true := fun x hx => by
      obtain ⟨k, hk, rfl⟩ := List.mem_iff_getElem.1 hx
      show (!isSep w[k]) = true
      rw [hns k hk]; rfl
    have hcs : isSep c = true := by rcases hc with rfl | rfl <;> decide
    have hL : uLen (w ++ c :: r) = w.length := by
      unfold uLen
      rw [runP_app _ _ w hall, runP_cons_no _ _ _ (by show (!isSep c) = false; rw [hcs]; rfl), Nat.add_zero]
    have hat : ∀ d, atIs (w ++ c :: r) w.length d = (c == d) := fun d => by
      unfold atIs
      rw [List.getElem?_append_right (Nat.le_refl _), Nat.sub_self, List.getElem?_cons_zero, Bool.eq_iff_iff]
      simp
    have h0 : atIs (w ++ c :: r) 0 34 = false := by
      cases w with
      | nil => rw [show atIs ([] ++ c :: r) 0 34 = (c == 34) from hat 34]; rcases hc with rfl | rfl <;> decide
      | cons d t =>
        have := hns 0 (by simp)
        unfold isSep at this
        simp only [List.getElem_cons_zero, Bool.or_eq_false_iff] at this
        unfold atIs
        rw [List.cons_append, List.getElem?_cons_zero, Bool.eq_false_iff]
        intro h
        simp at h
        rw [h] at this
        exact absurd this.1.1.2 (by decide)
    unfold cField
    rw [if_neg (by rw [h0]; decide), hL, if_neg (by rw [List.length_append, List.length_cons]; omega), hat, hat, if_neg (by rcases hc with rfl | rfl <;> decide)]
    rw [List.take_left' rfl, List.drop_left' rfl]
/-- the fields of a row's values, with commas between -/
def rowB : List Val → Bs
  | [] => []
  | [v] => cOut (cWord v)
  | v :: u :: t => cOut (cWord v) ++ 44 :: rowB (u :: t)
theorem rowB_cons (v u : Val) (t : List Val) : rowB (v :: u :: t) = cOut (cWord v) ++ 44 :: rowB (u :: t) := rfl
theorem rowB_snoc (v : Val) : ∀ l : List Val, rowB (l ++ [v]) = rowB l ++ ((if 0 < l.length then [44] else []) ++ cOut (cWord v))
  | [] => rfl
  | [u] => by show cOut (cWord u) ++ 44 :: cOut (cWord v) = cOut (cWord u) ++ ([44] ++ cOut (cWord v)); rfl
  | u :: x :: t => by
    have ih := rowB_snoc v (x :: t)
    rw [if_pos (by simp)] at ih ⊢
    show cOut (cWord u) ++ 44 :: rowB ((x :: t) ++ [v]) = _
    rw [ih, rowB_cons]
    simp
theorem cCells_row (vs : List Val) (base : Nat) : ∀ j, base + j ≤ vs.length → cCells vs base j = rowB ((vs.drop base).take j)
  | 0, _ => by rw [List.take_zero]; rfl
  | j + 1, h => by
    have hlt : j < (vs.drop base).length := by rw [List.length_drop]; omega
    rw [List.take_succ_eq_append_getElem hlt, rowB_snoc, cCells, cCells_row vs base j (by omega), List.length_take, Nat.min_eq_left (by omega)]
    congr 2
    unfold cellW
    rw [List.getElem_drop, List.getElem?_eq_getElem (by omega)]
/-- a row that was written is read as its words -/
theorem cLine_row (r : Bs) : ∀ (l : List Val) (ws : List Bs), l ≠ [] → cLine (rowB l ++ 10 :: r) ws = (ws ++ l.map cWord, r, 0)
  | [], _, h => absurd rfl h
  | [v], ws, _ => by
    have e : rowB [v] = cOut (cWord v) := rfl
    rw [cLine_step, e, cField_out _ _ _ (.inr rfl), if_neg (by simp), if_pos (by rfl)]
    rfl
  | v :: u :: t, ws, _ => by
    rw [rowB_cons, List.append_assoc, List.cons_append, cLine_step, cField_out _ _ _ (.inl rfl), if_neg (by simp), if_neg (by simp [atIs])]
    show cLine (rowB (u :: t) ++ 10 :: r) (ws ++ [cWord v]) = _
    rw [cLine_row r (u :: t) _ (by simp)]
    simp
/-- the rows of so many columns -/
def chunks (vs : List Val) (C : Nat) : Nat → List (List Val)
  | 0 => []
  | i + 1 => chunks vs C i ++ [(vs.drop (i * C)).take C]
def linesB (rs : List (List Val)) : Bs := rs.flatMap (fun l => rowB l ++ [10])
theorem chunks_len (vs : List Val) (C : Nat) : ∀ i, (chunks vs C i).length = i
  | 0 => rfl
  | i + 1 => by rw [chunks, List.length_append, chunks_len vs C i]; rfl
theorem chunks_each (vs : List Val) (C : Nat) : ∀ i, i * C ≤ vs.length → ∀ l ∈ chunks vs C i, l.length = C ∧ ∀ v ∈ l, v ∈ vs
  | 0, _, l, h => by cases h
  | i + 1, hi, l, h => by
    rw [Nat.add_mul, Nat.one_mul] at hi
    rw [chunks] at h
    rcases List.mem_append.1 h with h | h
    · exact chunks_each vs C i (by omega) l h
    · rw [List.mem_singleton.1 h]
      refine ⟨by rw [List.length_take, List.length_drop]; omega, fun v hv => List.mem_of_mem_drop (List.mem_of_mem_take hv)⟩
theorem chunks_flat (vs : List Val) (C : Nat) : ∀ i, i * C ≤ vs.length → (chunks vs C i).flatten = vs.take (i * C)
  | 0, _ => by simp [chunks]
  | i + 1, hi => by
    rw [Nat.add_mul, Nat.one_mul] at hi ⊢
    rw [chunks, List.flatten_append, chunks_flat vs C i (by omega), List.take_add]
    simp
theorem cLns_lines (vs : List Val) (C : Nat) : ∀ i, i * C ≤ vs.length → cLns vs C i = linesB (chunks vs C i)
  | 0, _ => rfl
  | i + 1, hi => by
    rw [Nat.add_mul, Nat.one_mul] at hi
    rw [cLns, chunks, cLns_lines vs C i (by omega), cCells_row vs _ C (by omega)]
    unfold linesB
    rw [List.flatMap_append]
    simp
theorem cLines_more (t : Bs) : ∀ rs : List (List Val), (∀ l ∈ rs, l ≠ []) → cLines (linesB rs ++ t) = rs.map (fun l => (l.map cWord, 0)) ++ cLines t
  | [], _ => by unfold linesB; rfl
  | l :: rs, h => by
    have hl := h l (List.mem_cons_self ..)
    have e : linesB (l :: rs) ++ t = rowB l ++ 10 :: (linesB rs ++ t) := by unfold linesB; rw [List.flatMap_cons]; simp
    rw [e, cLines_step, if_neg (by simp), cLine_row _ l [] hl, if_neg (by simp)]
    show (([] : List Bs) ++ l.map cWord, (0 : Int)) :: cLines (linesB rs ++ t) = _
    rw [cLines_more t rs (fun x hx => h x (List.mem_cons_of_mem _ hx)), List.nil_append]
    rfl
theorem cLines_lines (rs : List (List Val)) (h : ∀ l ∈ rs, l ≠ []) : cLines (linesB rs) = rs.map (fun l => (l.map cWord, 0)) := by
  have := cLines_more [] rs h
  rw [List.append_nil, show cLines [] = [] from rfl, List.append_nil] at this
  exact this
/-- the values of rows, each row filled up with blanks -/
def padAll (rows : List (List Val)) (cols : Nat) : List Val := rows.flatMap (fun l => l ++ List.replicate (cols - l.length) (⟨0, 0, 0, [], false, 0⟩ : Val))
abbrev RRes := (Nat × Nat × List Val) × Nat × Int
/-- what csv.Read makes of lines, behind rows of so many columns -/
def cReadGo : List (List Bs × Int) → List (List Val) → Nat → RRes
  | [], rows, cols => if rows = [] then ((0, 0, []), 1, 13) else ((rows.length, cols, padAll rows cols), 0, 0)
  | x :: t, rows, cols =>
    if x.2 ≠ 0 then ((0, 0, []), rows.length + 1, x.2)
    else if x.1.all (fun w => (vMeant w).2) = false then ((0, 0, []), rows.length + 1, 14)
    else if 4096 < (rows.length + 1) * max cols x.1.length then ((0, 0, []), rows.length + 1, 5)
    else cReadGo t (rows ++ [x.1.map (fun w => (vMeant w).1)]) (max cols x.1.length)
def cRead (s : Bs) : RRes := cReadGo (cLines s) [] 0
theorem pParse_39 (l : Bs) (h : atIs l 0 39 = true) : pParse l = none := by
  cases l with
  | nil => cases h
  | cons c t =>
    have hc : c = 39 := by unfold atIs at h; simpa using h
    subst hc
    unfold pParse
    split
    · rfl
    · rfl
/-- a right value's word means it -/
theorem meant_word (v : Val) (hR : vRight v = true) : vMeant (cWord v) = (v, true) := by
  rcases right_forms v hR with rfl | ⟨m, e, rfl, hp⟩ | ⟨t, rfl, ht⟩ | ⟨b, rfl⟩ | ⟨f, rfl, h1, h9⟩
  · rfl
  · have hs : cWord ⟨1, m, e, [], false, 0⟩ = nText m e := by
      unfold cWord
      rw [if_neg (by show ¬ (1 : Int) = 2; decide)]
      unfold vShow vToText
      rw [if_neg (by show ¬ (1 : Int) = 4; decide), if_pos rfl]
    have hpt := parse_text m e hp
    have hne := nText_ne m e hp
    have hl : (nText m e).length ≤ 255 := by
      rcases Nat.lt_or_ge 255 (nText m e).length with hl | hl
      · unfold pParse at hpt
        rw [if_pos hl] at hpt
        cases hpt
      · exact hl
    have h39 : ¬ atIs (nText m e) 0 39 = true := fun h => by rw [pParse_39 _ h] at hpt; cases hpt
    rw [hs]
    unfold vMeant
    rw [if_neg hne, if_neg h39, decide_eq_true hl]
    unfold vRead
    rw [if_neg hne, hpt]
    rfl
  · by_cases hq : cQuote ⟨2, 0, 0, t, false, 0⟩ = true
    · have hs : cWord ⟨2, 0, 0, t, false, 0⟩ = 39 :: t := by
        unfold cWord
        rw [if_pos rfl, if_pos hq]
      rw [hs]
      unfold vMeant
      rw [if_neg (by simp), if_pos (by rfl)]
      show (_, decide (t.length ≤ 255)) = _
      rw [decide_eq_true ht]
      rfl
    · have hs : cWord ⟨2, 0, 0, t, false, 0⟩ = t := by
        unfold cWord
        rw [if_pos rfl, if_neg hq]
      rw [hs]
      unfold cQuote at hq
      simp only [Bool.or_eq_true, Bool.not_eq_true'] at hq
      have hq1 : ¬ atIs t 0 39 = true := fun h => hq (.inl h)
      have hq2 : vRead t = ⟨2, 0, 0, t, false, 0⟩ := by
        by_cases h : vSame (vRead t) ⟨2, 0, 0, t, false, 0⟩ = true
        · exact (vSame_iff _ _).1 h
        · exact absurd (.inr (by simpa using h)) hq
      have hne : t ≠ [] := by
        rintro rfl
        have : vRead [] = (⟨0, 0, 0, [], false, 0⟩ : Val) := rfl
        rw [this] at hq2
        cases hq2
      unfold vMeant
      rw [if_neg hne, if_neg hq1, hq2, decide_eq_true ht]
  · cases b
    · rfl
    · rfl
  · have hs : cWord ⟨4, 0, 0, [], false, f⟩ = pFaultText f := by
      unfold cWord
      rw [if_neg (by show ¬ (4 : Int) = 2; decide)]
      unfold vShow
      rw [if_pos rfl]
    obtain ⟨r1, r2, r3, r4⟩ := read_fault f h1 h9
    rw [hs]
    have h39 : ¬ atIs (pFaultText f) 0 39 = true := by
      have h : f = 1 ∨ f = 2 ∨ f = 3 ∨ f = 4 ∨ f = 5 ∨ f = 6 ∨ f = 7 ∨ f = 8 ∨ f = 9 := by omega
      rcases h with rfl | rfl | rfl | rfl | rfl | rfl | rfl | rfl | rfl <;> decide
    unfold vMeant
    rw [if_neg r3, if_neg h39, r1, decide_eq_true (by omega)]
    unfold vBad
    rw [if_neg (by omega)]
theorem padAll_even (C : Nat) : ∀ rows : List (List Val), (∀ l ∈ rows, l.length = C) → padAll rows C = rows.flatten
  | [], _ => rfl
  | l :: rows, h => by
    have hl := h l (List.mem_cons_self ..)
    unfold padAll
    rw [List.flatMap_cons]
    have ih := padAll_even C rows (fun x hx => h x (List.mem_cons_of_mem _ hx))
    unfold padAll at ih
    rw [ih, hl, Nat.sub_self]
    simp
theorem meant_map (l : List Val) (h : ∀ v ∈ l, vRight v = true) : (l.map cWord).map (fun w => (vMeant w).1) = l ∧ (l.map cWord).all (fun w => (vMeant w).2) = true := by
  constructor
  · rw [List.map_map]
    conv => rhs; rw [← List.map_id l]
    exact List.map_congr_left (fun v hv => by show (vMeant (cWord v)).1 = v; rw [meant_word v (h v hv)])
  · rw [List.all_eq_true]
    intro w hw
    obtain ⟨v, hv, rfl⟩ := List.mem_map.1 hw
    rw [meant_word v (h v hv)]
theorem cReadGo_pass (C : Nat) (rest : List (List Bs × Int)) : ∀ (rs rows : List (List Val)) (cols : Nat), rs ≠ [] → (∀ l ∈ rs, l.length = C ∧ ∀ v ∈ l, vRight v = true) → (rows.length + rs.length) * C ≤ 4096 → cols ≤ C →
    cReadGo (rs.map (fun l => (l.map cWord, 0)) ++ rest) rows cols = cReadGo rest (rows ++ rs) C
  | [], _, _, h, _, _, _ => absurd rfl h
  | l :: rs, rows, cols, _, h, hC, h1 => by
    obtain ⟨hl, hv⟩ := h l (by simp)
    obtain ⟨m1, m2⟩ := meant_map l hv
    have hle : (rows.length + 1) * C ≤ (rows.length + (l :: rs).length) * C := Nat.mul_le_mul_right C (by rw [List.length_cons]; omega)
    have hmx : max cols (l.map cWord).length = C := by rw [List.length_map, hl]; omega
    rw [List.map_cons, List.cons_append, cReadGo, if_neg (by simp)]
    dsimp only
    rw [m2, if_neg (by decide), hmx, if_neg (by omega), m1]
    cases rs with
    | nil => rfl
    | cons l2 rs =>
      rw [cReadGo_pass C rest (l2 :: rs) (rows ++ [l]) C (by simp) (fun x hx => h x (List.mem_cons_of_mem _ hx)) (by rw [List.length_append, List.length_singleton]; rw [List.length_cons] at hC; rw [show rows.length + 1 + (l2 :: rs).length = rows.length + ((l2 :: rs).length + 1) by omega]; exact hC) (Nat.le_refl _)]
      rw [List.append_assoc]
      rfl
/-- what is written is read again -/
theorem cRead_write (r c : Int) (vs : List Val) (h : aRight r c vs = true) : cRead (cWrite r c vs) = ((r.toNat, c.toNat, vs), 0, 0) := by
  obtain ⟨h1, h2, h3⟩ := aRight_yes h
  obtain ⟨R, C, rfl, rfl, hR1, hC1, hR2, hC2, hRC⟩ := fits_nat h1
  have hlen : vs.length = R * C := by
    rw [← Int.natCast_mul] at h2
    exact_mod_cast h2
  have e : cWrite (R : Int) (C : Int) vs = linesB (chunks vs C R) := by
    unfold cWrite
    rw [if_pos h, Int.toNat_natCast, Int.toNat_natCast, cLns_lines vs C R (by omega)]
  have hch := chunks_each vs C R (by omega)
  unfold cRead
  rw [e, cLines_lines _ (fun l hl => by
    intro h0
    have := (hch l hl).1
    rw [h0] at this
    simp at this
    omega)]
  have hne : chunks vs C R ≠ [] := fun h0 => by
    have := chunks_len vs C R
    rw [h0] at this
    simp at this
    omega
  have hp := cReadGo_pass C [] (chunks vs C R) [] 0 hne (fun l hl => ⟨(hch l hl).1, fun v hv => h3 v ((hch l hl).2 v hv)⟩) (by rw [chunks_len]; simpa using hRC) (Nat.zero_le _)
  rw [List.append_nil, List.nil_append] at hp
  rw [hp, cReadGo, if_neg hne, padAll_even C _ (fun l hl => (hch l hl).1), chunks_len, chunks_flat vs C R (by omega), ← hlen, List.take_length]
  simp
theorem near_right {neg : Bool} {n : Nat} {e : Int} {q : Int × Int} (h : pNear neg n e = some q) : pRight q.1 q.2 = true := by
  rw [pNear_is neg n e (near1 n e).1 (near2 (near1 n e).1 (near1 n e).2).1 (near1 n e).2 (near2 (near1 n e).1 (near1 n e).2).2 rfl rfl] at h
  split at h
  · rename_i hR
    injection h with h
    subst h
    exact hR
  · cases h
theorem parse_right {l : Bs} {q : Int × Int} (h : pParse l = some q) : pRight q.1 q.2 = true := by
  unfold pParse at h
  split at h
  · cases h
  · rw [Option.bind_eq_some_iff] at h
    obtain ⟨x, _, hx⟩ := h
    unfold finNum at hx
    exact near_right hx
theorem right_number (m e : Int) (h : pRight m e = true) : vRight (vNumber m e) = true := by simp [vRight, vNumber, h]
theorem right_truth (b : Bool) : vRight (vTruth b) = true := by simp [vRight, vTruth]
theorem right_bad (f : Int) : vRight (vBad f) = true := by
  unfold vBad
  split
  · simp [vRight]
  · have h1 : 1 ≤ f := by omega
    have h2 : f ≤ 9 := by omega
    have h3 : ¬ f = 0 := by omega
    simp [vRight, h1, h2]
theorem right_text (t : Bs) (h : t.length ≤ 255) : vRight ⟨2, 0, 0, t, false, 0⟩ = true := by simp [vRight, h]
theorem read_right (l : Bs) (h : l.length ≤ 255) : vRight (vRead l) = true := by
  unfold vRead
  split
  · rfl
  · split
    · next q hq => exact right_number _ _ (parse_right hq)
    · unfold vWord
      split
      · exact right_truth _
      · split
        · exact right_truth _
        · split
          · exact right_bad _
          · unfold vText
            rw [if_neg (by omega)]
            exact right_text l h
theorem meant_right (w : Bs) (h : (vMeant w).2 = true) : vRight (vMeant w).1 = true := by
  unfold vMeant at h ⊢
  split
  · rfl
  · next h0 =>
    rw [if_neg h0] at h
    split
    · next h39 =>
      rw [if_pos h39] at h
      exact right_text _ (of_decide_eq_true h)
    · next h39 =>
      rw [if_neg h39] at h
      exact read_right w (of_decide_eq_true h)
theorem blank_right : vRight ⟨0, 0, 0, [], false, 0⟩ = true := rfl
theorem right_sane {v : Val} (h : vRight v = true) : v.sane := by
  rcases right_forms v h with rfl | ⟨m, e, rfl, hp⟩ | ⟨t, rfl, ht⟩ | ⟨b, rfl⟩ | ⟨f, rfl, h1, h9⟩
  · exact ⟨by show (-9223372036854775808 : Int) ≤ 0; decide, by show (0 : Int) ≤ 9223372036854775807; decide, by show 0 ≤ 100000; decide⟩
  · obtain ⟨a, b⟩ := pRight_bd hp
    exact ⟨a, b, by show 0 ≤ 100000; decide⟩
  · exact ⟨by show (-9223372036854775808 : Int) ≤ 0; decide, by show (0 : Int) ≤ 9223372036854775807; decide, by show t.length ≤ 100000; omega⟩
  · exact ⟨by show (-9223372036854775808 : Int) ≤ 0; decide, by show (0 : Int) ≤ 9223372036854775807; decide, by show 0 ≤ 100000; decide⟩
  · exact ⟨by show (-9223372036854775808 : Int) ≤ 0; decide, by show (0 : Int) ≤ 9223372036854775807; decide, by show 0 ≤ 100000; decide⟩
theorem padAll_len (C : Nat) : ∀ rows : List (List Val), (∀ l ∈ rows, l.length ≤ C) → (padAll rows C).length = rows.length * C
  | [], _ => by simp [padAll]
  | l :: rows, h => by
    have hl := h l (List.mem_cons_self ..)
    have ih := padAll_len C rows (fun x hx => h x (List.mem_cons_of_mem _ hx))
    unfold padAll at ih ⊢
    rw [List.flatMap_cons, List.length_append, ih, List.length_append, List.length_replicate, List.length_cons, Nat.add_mul]
    omega
theorem padAll_right (C : Nat) (rows : List (List Val)) (h : ∀ l ∈ rows, ∀ v ∈ l, vRight v = true) : ∀ v ∈ padAll rows C, vRight v = true := by
  intro v hv
  unfold padAll at hv
  obtain ⟨l, hl, hv⟩ := List.mem_flatMap.1 hv
  rcases List.mem_append.1 hv with hv | hv
  · exact h l hl v hv
  · rw [List.eq_of_mem_replicate hv]; exact blank_right
/-- how long a row's fields are, as words -/
def wSum (ws : List Bs) : Nat := (ws.map (fun w => w.length + 1)).sum
theorem wSum_app (a b : List Bs) : wSum (a ++ b) = wSum a + wSum b := by unfold wSum; rw [List.map_append, List.sum_append]
theorem cLine_sum : ∀ (n : Nat) (l : Bs) (ws : List Bs), l.length ≤ n → (cLine l ws).2.2 = 0 → wSum (cLine l ws).1 + (cLine l ws).2.1.length ≤ wSum ws + l.length := by
  intro n
  induction n with
  | zero =>
    intro l ws hl h
    obtain rfl := List.eq_nil_of_length_eq_zero (by omega : l.length = 0)
    rw [cLine_step, if_pos (by decide)] at h
    cases h
  | succ n ih =>
    intro l ws hl h
    obtain ⟨k1, k2⟩ := cField_ok l
    rw [cLine_step] at h ⊢
    by_cases h0 : (cField l).2.2 ≠ 0
    · rw [if_pos h0] at h
      exact absurd h h0
    · rw [if_neg h0] at h ⊢
      obtain ⟨c, r, e, _⟩ := k2 (Decidable.not_not.1 h0)
      rw [e] at k1 h ⊢
      rw [List.length_cons] at k1
      have h1 : wSum (ws ++ [(cField l).1]) = wSum ws + ((cField l).1.length + 1) := by rw [wSum_app]; simp [wSum]
      by_cases h10 : atIs (c :: r) 0 10 = true
      · rw [if_pos h10]
        show wSum (ws ++ [(cField l).1]) + r.length ≤ _
        omega
      · rw [if_neg h10] at h ⊢
        have e2 : (c :: r).drop 1 = r := rfl
        rw [e2] at h ⊢
        have := ih r (ws ++ [(cField l).1]) (by omega) h
        omega
theorem cLines_sum : ∀ (n : Nat) (s : Bs), s.length ≤ n → ((cLines s).map (fun x => wSum x.1)).sum ≤ s.length ∧ ∀ x ∈ cLines s, x.2 = 0 → x.1 ≠ [] := by
  intro n
  induction n with
  | zero =>
    intro s hs
    obtain rfl := List.eq_nil_of_length_eq_zero (by omega : s.length = 0)
    rw [cLines_step, if_pos rfl]
    exact ⟨by simp, by simp⟩
  | succ n ih =>
    intro s hs
    rw [cLines_step]
    by_cases h0 : s = []
    · rw [if_pos h0]; exact ⟨by simp, by simp⟩
    · rw [if_neg h0]
      by_cases he : (cLine s []).2.2 ≠ 0
      · rw [if_pos he]
        refine ⟨by simp [wSum], fun x hx h => ?_⟩
        rw [List.mem_singleton.1 hx] at h
        exact absurd h he
      · rw [if_neg he]
        have hl := cLine_len s.length s [] (Nat.le_refl _) (Decidable.not_not.1 he)
        have hw := cLine_sum s.length s [] (Nat.le_refl _) (Decidable.not_not.1 he)
        obtain ⟨i1, i2⟩ := ih (cLine s []).2.1 (by omega)
        have hz : wSum [] = 0 := rfl
        rw [hz] at hw
        refine ⟨?_, fun x hx h => ?_⟩
        · rw [List.map_cons, List.sum_cons]
          dsimp only
          omega
        · rcases List.mem_cons.1 hx with rfl | hx
          · intro h0
            have := hl.2.2
            dsimp only at h0
            rw [h0] at this
            simp at this
          · exact i2 x hx h
theorem cWord_256 (v : Val) (hR : vRight v = true) : (cWord v).length ≤ 256 := by
  rcases right_forms v hR with rfl | ⟨m, e, rfl, hp⟩ | ⟨t, rfl, ht⟩ | ⟨b, rfl⟩ | ⟨f, rfl, h1, h9⟩
  · exact Nat.le_trans (Nat.le_of_eq (by rfl : (cWord ⟨0, 0, 0, [], false, 0⟩).length = 0)) (Nat.zero_le _)
  · have hs : cWord ⟨1, m, e, [], false, 0⟩ = nText m e := by
      unfold cWord
      rw [if_neg (by show ¬ (1 : Int) = 2; decide)]
      unfold vShow vToText
      rw [if_neg (by show ¬ (1 : Int) = 4; decide), if_pos rfl]
    rw [hs]
    have hpt := parse_text _ _ hp
    rcases Nat.lt_or_ge 255 (nText m e).length with hl | hl
    · unfold pParse at hpt
      rw [if_pos hl] at hpt
      cases hpt
    · omega
  · unfold cWord
    rw [if_pos rfl]
    split
    · rw [List.length_cons]; show t.length + 1 ≤ 256; omega
    · show t.length ≤ 256; omega
  · cases b
    · exact (by decide : (cWord ⟨3, 0, 0, [], false, 0⟩).length ≤ 256)
    · exact (by decide : (cWord ⟨3, 0, 0, [], true, 0⟩).length ≤ 256)
  · have hs : cWord ⟨4, 0, 0, [], false, f⟩ = pFaultText f := by
      unfold cWord
      rw [if_neg (by show ¬ (4 : Int) = 2; decide)]
      unfold vShow
      rw [if_pos rfl]
    rw [hs]
    have := (read_fault f h1 h9).2.2.2
    omega
/-- how long a value's field is -/
def oLen (v : Val) : Nat := (cOut (cWord v)).length
def oSum (vs : List Val) : Nat := (vs.map oLen).sum
theorem oSum_app (a b : List Val) : oSum (a ++ b) = oSum a + oSum b := by unfold oSum; rw [List.map_append, List.sum_append]
theorem oLen_le (v : Val) (hR : vRight v = true) : oLen v ≤ 514 := by
  have := cOut_len (cWord v)
  have := cWord_256 v hR
  unfold oLen
  omega
theorem oLen_blank : oLen ⟨0, 0, 0, [], false, 0⟩ = 0 := rfl
theorem oSum_le (vs : List Val) (h : ∀ v ∈ vs, vRight v = true) : oSum vs ≤ 514 * vs.length := by
  induction vs with
  | nil => simp [oSum]
  | cons v t ih =>
    have h1 := oLen_le v (h v (List.mem_cons_self ..))
    have h2 := ih (fun x hx => h x (List.mem_cons_of_mem _ hx))
    unfold oSum at h2 ⊢
    rw [List.map_cons, List.sum_cons, List.length_cons]
    omega
theorem oSum_blanks (n : Nat) : oSum (List.replicate n ⟨0, 0, 0, [], false, 0⟩) = 0 := by
  induction n with
  | zero => rfl
  | succ n ih =>
    unfold oSum at ih ⊢
    rw [List.replicate_succ, List.map_cons, List.sum_cons, ih, oLen_blank]
theorem oSum_meant : ∀ ws : List Bs, ws.all (fun w => (vMeant w).2) = true → oSum (ws.map (fun w => (vMeant w).1)) ≤ 257 * wSum ws
  | [], _ => by simp [oSum]
  | w :: ws, h => by
    rw [List.all_cons, Bool.and_eq_true] at h
    have ih := oSum_meant ws h.2
    have h1 : oLen (vMeant w).1 ≤ 257 * (w.length + 1) := by
      cases w with
      | nil => rw [meant_nil, oLen_blank]; omega
      | cons c t =>
        have := oLen_le _ (meant_right _ h.1)
        rw [List.length_cons]
        omega
    unfold oSum at ih ⊢
    unfold wSum at ih ⊢
    rw [List.map_cons, List.map_cons, List.sum_cons, List.map_cons, List.sum_cons]
    omega
theorem rowB_len : ∀ l : List Val, (rowB l).length + 1 ≤ oSum l + l.length + (if l = [] then 1 else 0)
  | [] => by simp [rowB, oSum]
  | [v] => by simp [rowB, oSum, oLen]
  | v :: u :: t => by
    have ih := rowB_len (u :: t)
    rw [if_neg (by simp)] at ih ⊢
    have e : oSum (v :: u :: t) = oLen v + oSum (u :: t) := by unfold oSum; rw [List.map_cons, List.sum_cons]
    rw [rowB_cons, List.length_append, List.length_cons, e, List.length_cons]
    unfold oLen
    omega
theorem linesB_len : ∀ rs : List (List Val), (∀ l ∈ rs, l ≠ []) → (linesB rs).length ≤ oSum rs.flatten + rs.flatten.length
  | [], _ => by simp [linesB, oSum]
  | l :: rs, h => by
    have ih := linesB_len rs (fun x hx => h x (List.mem_cons_of_mem _ hx))
    have hl := rowB_len l
    rw [if_neg (h l (List.mem_cons_self ..))] at hl
    unfold linesB at ih ⊢
    rw [List.flatMap_cons, List.length_append, List.length_append, List.length_singleton, List.flatten_cons, oSum_app, List.length_append]
    omega
theorem write_len (r c : Int) (vs : List Val) (h : aRight r c vs = true) : (cWrite r c vs).length ≤ oSum vs + vs.length := by
  obtain ⟨h1, h2, h3⟩ := aRight_yes h
  obtain ⟨R, C, rfl, rfl, hR1, hC1, hR2, hC2, hRC⟩ := fits_nat h1
  have hlen : vs.length = R * C := by
    rw [← Int.natCast_mul] at h2
    exact_mod_cast h2
  have hch := chunks_each vs C R (by omega)
  have e : cWrite (R : Int) (C : Int) vs = linesB (chunks vs C R) := by
    unfold cWrite
    rw [if_pos h, Int.toNat_natCast, Int.toNat_natCast, cLns_lines vs C R (by omega)]
  have := linesB_len (chunks vs C R) (fun l hl h0 => by
    have := (hch l hl).1
    rw [h0] at this
    simp at this
    omega)
  rw [chunks_flat vs C R (by omega), ← hlen, List.take_length] at this
  rw [e]
  exact this
theorem fits_of {R C : Nat} (h1 : 1 ≤ R) (h2 : 1 ≤ C) (h : R * C ≤ 4096) : pFits (R : Int) (C : Int) = true := by
  have hR : R ≤ R * C := Nat.le_mul_of_pos_right R h2
  have hC : C ≤ 4096 / R := (Nat.le_div_iff_mul_le h1).2 (by rw [Nat.mul_comm]; exact h)
  unfold pFits
  simp only [Bool.and_eq_true, decide_eq_true_eq]
  refine ⟨by omega, by omega, by omega, ?_⟩
  rw [show (4096 : Int) = ((4096 : Nat) : Int) from rfl, ← Int.natCast_ediv]
  omega
/-- what was read so far -/
structure RdOk (rows : List (List Val)) (cols used : Nat) : Prop where
  size : rows.length * cols ≤ 4096
  cl : cols ≤ 4096
  each : ∀ l ∈ rows, 1 ≤ l.length ∧ l.length ≤ cols
  right : ∀ l ∈ rows, ∀ v ∈ l, vRight v = true
  out : oSum rows.flatten ≤ 257 * used
theorem RdOk.nil : RdOk [] 0 0 := ⟨by simp, by simp, by simp, by simp, by simp [oSum]⟩
theorem RdOk.step {rows : List (List Val)} {cols used : Nat} (h : RdOk rows cols used) (ws : List Bs) (hne : ws ≠ []) (hm : ws.all (fun w => (vMeant w).2) = true) (hs : (rows.length + 1) * max cols ws.length ≤ 4096) :
    RdOk (rows ++ [ws.map (fun w => (vMeant w).1)]) (max cols ws.length) (used + wSum ws) := by
  have hp := List.length_pos_iff.2 hne
  have hs2 : max cols ws.length ≤ (rows.length + 1) * max cols ws.length := Nat.le_mul_of_pos_left _ (by omega)
  refine ⟨by rw [List.length_append, List.length_singleton]; exact hs, Nat.le_trans hs2 hs, fun l hl => ?_, fun l hl v hv => ?_, ?_⟩
  · rcases List.mem_append.1 hl with hl | hl
    · have := h.each l hl; omega
    · rw [List.mem_singleton.1 hl, List.length_map]; omega
  · rcases List.mem_append.1 hl with hl | hl
    · exact h.right l hl v hv
    · rw [List.mem_singleton.1 hl] at hv
      obtain ⟨w, hw, rfl⟩ := List.mem_map.1 hv
      exact meant_right w (List.all_eq_true.1 hm w hw)
  · rw [List.flatten_append, oSum_app]
    have := oSum_meant ws hm
    have := h.out
    simp only [List.flatten_cons, List.flatten_nil, List.append_nil]
    omega
theorem oSum_pad (C : Nat) : ∀ rows : List (List Val), oSum (padAll rows C) = oSum rows.flatten
  | [] => rfl
  | l :: rows => by
    have ih := oSum_pad C rows
    unfold padAll at ih ⊢
    rw [List.flatMap_cons, oSum_app, oSum_app, ih, oSum_blanks, List.flatten_cons, oSum_app]
    omega
/-- what is read is wrong, or a right array that is written as no longer a text than 257 times what it was read from, and its values' number -/
theorem cReadGo_ok : ∀ (L : List (List Bs × Int)) (rows : List (List Val)) (cols used : Nat), RdOk rows cols used → (∀ x ∈ L, x.2 = 0 → x.1 ≠ []) →
    ((cReadGo L rows cols).2.2 = 0 → (cReadGo L rows cols).2.1 = 0 ∧ aRight (cReadGo L rows cols).1.1 (cReadGo L rows cols).1.2.1 (cReadGo L rows cols).1.2.2 = true ∧ oSum (cReadGo L rows cols).1.2.2 ≤ 257 * (used + (L.map (fun x => wSum x.1)).sum)) ∧
    ((cReadGo L rows cols).2.2 ≠ 0 → (cReadGo L rows cols).1 = (0, 0, []))
  | [], rows, cols, used, h, _ => by
    rw [cReadGo]
    by_cases h0 : rows = []
    · rw [if_pos h0]; exact ⟨fun h => (by cases h), fun _ => rfl⟩
    · rw [if_neg h0]
      refine ⟨fun _ => ⟨rfl, ?_, ?_⟩, fun h => absurd rfl h⟩
      · have hp := List.length_pos_iff.2 h0
        obtain ⟨l, hl⟩ := List.exists_mem_of_ne_nil rows h0
        have hc := h.each l hl
        unfold aRight
        rw [fits_of (by omega) (by omega) h.size, padAll_len cols rows (fun l hl => (h.each l hl).2)]
        simp only [Bool.true_and, Bool.and_eq_true, decide_eq_true_eq, List.all_eq_true]
        exact ⟨by rw [Int.natCast_mul], padAll_right cols rows h.right⟩
      · dsimp only
        rw [oSum_pad]
        have := h.out
        simp only [List.map_nil, List.sum_nil]
        omega
  | x :: t, rows, cols, used, h, hn => by
    rw [cReadGo]
    by_cases h0 : x.2 ≠ 0
    · rw [if_pos h0]; exact ⟨fun h => absurd h h0, fun _ => rfl⟩
    · rw [if_neg h0]
      by_cases hm : x.1.all (fun w => (vMeant w).2) = false
      · rw [if_pos hm]; exact ⟨fun h => (by cases h), fun _ => rfl⟩
      · rw [if_neg hm]
        by_cases hs : 4096 < (rows.length + 1) * max cols x.1.length
        · rw [if_pos hs]; exact ⟨fun h => (by cases h), fun _ => rfl⟩
        · rw [if_neg hs]
          have hst := h.step x.1 (hn x (List.mem_cons_self ..) (Decidable.not_not.1 h0)) (by simpa using hm) (by omega)
          obtain ⟨r1, r2⟩ := cReadGo_ok t _ _ _ hst (fun y hy => hn y (List.mem_cons_of_mem _ hy))
          refine ⟨fun h => ?_, r2⟩
          obtain ⟨a, b, c⟩ := r1 h
          refine ⟨a, b, ?_⟩
          rw [List.map_cons, List.sum_cons]
          omega
theorem cRead_ok (s : Bs) : ((cRead s).2.2 = 0 → (cRead s).2.1 = 0 ∧ aRight (cRead s).1.1 (cRead s).1.2.1 (cRead s).1.2.2 = true ∧ oSum (cRead s).1.2.2 ≤ 257 * s.length) ∧ ((cRead s).2.2 ≠ 0 → (cRead s).1 = (0, 0, [])) := by
  obtain ⟨h1, h2⟩ := cLines_sum s.length s (Nat.le_refl _)
  obtain ⟨r1, r2⟩ := cReadGo_ok (cLines s) [] 0 0 RdOk.nil h2
  refine ⟨fun h => ?_, r2⟩
  obtain ⟨a, b, c⟩ := r1 h
  exact ⟨a, b, by unfold cRead; omega⟩
abbrev blankV : Val := ⟨0, 0, 0, [], false, 0⟩
theorem rowB_blanks : ∀ n, rowB (List.replicate (n + 1) blankV) = List.replicate n 44
  | 0 => rfl
  | n + 1 => by
    have e : rowB (List.replicate (n + 1 + 1) blankV) = cOut (cWord blankV) ++ 44 :: rowB (List.replicate (n + 1) blankV) := rfl
    rw [e, rowB_blanks n, show cOut (cWord blankV) = [] from rfl, List.nil_append]
    rfl
def fullB (n rows : Nat) : Bs := linesB (List.replicate rows (List.replicate n blankV))
theorem fullB_zero (n : Nat) : fullB n 0 = [] := rfl
theorem fullB_succ (n i : Nat) : fullB (n + 1) (i + 1) = fullB (n + 1) i ++ (List.replicate n 44 ++ [10]) := by
  unfold fullB linesB
  rw [List.replicate_succ', List.flatMap_append, List.flatMap_singleton, rowB_blanks]
theorem fullB_len (n : Nat) : ∀ i, (fullB (n + 1) i).length = i * (n + 1)
  | 0 => by rw [fullB_zero]; simp
  | i + 1 => by
    rw [fullB_succ, List.length_append, fullB_len n i, List.length_append, List.length_replicate, List.length_singleton, Nat.add_mul]
    omega
theorem blanks_ok (n rows : Nat) (hn : 1 ≤ n) : (∀ l ∈ List.replicate rows (List.replicate n blankV), l ≠ []) ∧ ∀ l ∈ List.replicate rows (List.replicate n blankV), l.length = n ∧ ∀ v ∈ l, vRight v = true := by
  refine ⟨fun l hl h => ?_, fun l hl => ?_⟩
  · rw [List.eq_of_mem_replicate hl] at h
    have := congrArg List.length h
    simp at this
    omega
  · rw [List.eq_of_mem_replicate hl]
    exact ⟨by simp, fun v hv => by rw [List.eq_of_mem_replicate hv]; exact blank_right⟩
theorem div_bounds (n : Nat) (hn : 1 ≤ n) (h64 : n ≤ 64) : 1 ≤ 4096 / n ∧ 4096 / n * n ≤ 4096 ∧ 4096 < (4096 / n + 1) * n := by
  refine ⟨(Nat.le_div_iff_mul_le hn).2 (by omega), Nat.div_mul_le_self _ _, ?_⟩
  have := Nat.lt_mul_div_succ 4096 hn
  rw [Nat.mul_comm] at this
  exact this
theorem full_fits (n : Nat) (hn : 1 ≤ n) (h64 : n ≤ 64) : cRead (fullB n (4096 / n)) = ((4096 / n, n, List.replicate (4096 / n * n) blankV), 0, 0) := by
  obtain ⟨d1, d2, d3⟩ := div_bounds n hn h64
  generalize 4096 / n = rows at *
  obtain ⟨o1, o2⟩ := blanks_ok n rows hn
  have hne : List.replicate rows (List.replicate n blankV) ≠ [] := fun h => by
    have := congrArg List.length h
    simp at this
    omega
  unfold cRead fullB
  have hp := cReadGo_pass n [] (List.replicate rows (List.replicate n blankV)) [] 0 hne o2 (by rw [List.length_replicate]; simpa using d2) (Nat.zero_le _)
  rw [List.append_nil, List.nil_append] at hp
  rw [cLines_lines _ o1, hp, cReadGo, if_neg hne, padAll_even n _ (fun l hl => (o2 l hl).1), List.length_replicate, List.flatten_replicate_replicate]
theorem full_more (n : Nat) (hn : 1 ≤ n) (h64 : n ≤ 64) (t : Bs) : cRead (fullB n (4096 / n + 1) ++ t) = ((0, 0, []), 4096 / n + 1, 5) := by
  obtain ⟨d1, d2, d3⟩ := div_bounds n hn h64
  generalize 4096 / n = rows at *
  obtain ⟨o1, o2⟩ := blanks_ok n (rows + 1) hn
  obtain ⟨p1, p2⟩ := blanks_ok n rows hn
  have hne : List.replicate rows (List.replicate n blankV) ≠ [] := fun h => by
    have := congrArg List.length h
    simp at this
    omega
  obtain ⟨m1, m2⟩ := meant_map (List.replicate n blankV) (fun v hv => by rw [List.eq_of_mem_replicate hv]; exact blank_right)
  have hp := cReadGo_pass n (((List.replicate n blankV).map cWord, 0) :: cLines t) (List.replicate rows (List.replicate n blankV)) [] 0 hne p2 (by rw [List.length_replicate]; simpa using d2) (Nat.zero_le _)
  have e : (List.replicate (rows + 1) (List.replicate n blankV)).map (fun l => (l.map cWord, (0 : Int))) ++ cLines t = (List.replicate rows (List.replicate n blankV)).map (fun l => (l.map cWord, (0 : Int))) ++ (((List.replicate n blankV).map cWord, 0) :: cLines t) := by
    rw [List.replicate_succ', List.map_append, List.append_assoc]
    rfl
  unfold cRead fullB
  rw [cLines_more t _ o1, e, hp, List.nil_append, cReadGo, if_neg (by simp)]
  dsimp only
  rw [m2, if_neg (by decide), List.length_replicate, if_pos (by rw [List.length_map, List.length_replicate, Nat.max_self]; exact d3)]
/-- one array below the other -/
theorem cellW_app (a b : List Val) (k : Nat) : cellW (a ++ b) (a.length + k) = cellW b k := by
  unfold cellW
  rw [List.getElem?_append_right (by omega), show a.length + k - a.length = k by omega]
theorem cellW_left (a b : List Val) (k : Nat) (h : k < a.length) : cellW (a ++ b) k = cellW a k := by
  unfold cellW
  rw [List.getElem?_append_left h]
theorem cCells_app (a b : List Val) (base : Nat) : ∀ j, cCells (a ++ b) (a.length + base) j = cCells b base j
  | 0 => rfl
  | j + 1 => by rw [cCells, cCells, cCells_app a b base j, Nat.add_assoc, cellW_app]
theorem cCells_left (a b : List Val) (base : Nat) : ∀ j, base + j ≤ a.length → cCells (a ++ b) base j = cCells a base j
  | 0, _ => rfl
  | j + 1, h => by rw [cCells, cCells, cCells_left a b base j (by omega), cellW_left a b _ (by omega)]
theorem cLns_left (a b : List Val) (C : Nat) : ∀ i, i * C ≤ a.length → cLns (a ++ b) C i = cLns a C i
  | 0, _ => rfl
  | i + 1, h => by
    rw [Nat.add_mul, Nat.one_mul] at h
    rw [cLns, cLns, cLns_left a b C i (by omega), cCells_left a b _ C (by omega)]
theorem cLns_app (a b : List Val) (C R : Nat) (h : a.length = R * C) : ∀ i, cLns (a ++ b) C (R + i) = cLns a C R ++ cLns b C i
  | 0 => by rw [Nat.add_zero, cLns_left a b C R (by omega)]; simp [cLns]
  | i + 1 => by
    rw [← Nat.add_assoc, cLns, cLns_app a b C R h i, Nat.add_mul, ← h, cCells_app, cLns, List.append_assoc]
theorem aRight_below {r1 r2 c : Int} {a b : List Val} (h1 : aRight r1 c a = true) (h2 : aRight r2 c b = true) (hl : a.length + b.length ≤ 4096) : aRight (r1 + r2) c (a ++ b) = true := by
  obtain ⟨f1, e1, k1⟩ := aRight_yes h1
  obtain ⟨f2, e2, k2⟩ := aRight_yes h2
  obtain ⟨R1, C, rfl, rfl, g1, g2, _, _, _⟩ := fits_nat f1
  obtain ⟨R2, C', rfl, hC, g3, g4, _, _, _⟩ := fits_nat f2
  have : C' = C := by omega
  subst this
  have l1 : a.length = R1 * C' := by rw [← Int.natCast_mul] at e1; exact_mod_cast e1
  have l2 : b.length = R2 * C' := by rw [← Int.natCast_mul] at e2; exact_mod_cast e2
  have hs : (R1 + R2) * C' = a.length + b.length := by rw [Nat.add_mul, l1, l2]
  unfold aRight
  rw [show ((R1 : Int) + (R2 : Int)) = ((R1 + R2 : Nat) : Int) by simp, fits_of (by omega) (by omega) (by omega)]
  simp only [Bool.true_and, Bool.and_eq_true, decide_eq_true_eq, List.all_eq_true]
  refine ⟨by rw [← Int.natCast_mul, hs, List.length_append], fun v hv => ?_⟩
  rcases List.mem_append.1 hv with hv | hv
  · exact k1 v hv
  · exact k2 v hv
theorem write_below {r1 r2 c : Int} {a b : List Val} (h1 : aRight r1 c a = true) (h2 : aRight r2 c b = true) (hl : a.length + b.length ≤ 4096) : cWrite (r1 + r2) c (a ++ b) = cWrite r1 c a ++ cWrite r2 c b := by
  have h3 := aRight_below h1 h2 hl
  obtain ⟨f1, e1, k1⟩ := aRight_yes h1
  obtain ⟨f2, e2, k2⟩ := aRight_yes h2
  unfold cWrite
  rw [if_pos h1, if_pos h2, if_pos h3]
  obtain ⟨R1, C, rfl, rfl, g1, g2, _, _, _⟩ := fits_nat f1
  obtain ⟨R2, C', rfl, hC, g3, g4, _, _, _⟩ := fits_nat f2
  have : C' = C := by omega
  subst this
  have l1 : a.length = R1 * C' := by rw [← Int.natCast_mul] at e1; exact_mod_cast e1
  rw [show ((R1 : Int) + (R2 : Int)) = ((R1 + R2 : Nat) : Int) by simp]
  simp only [Int.toNat_natCast]
  exact cLns_app a b C' R1 l1 R2
/-- a row alone -/
theorem row_right {r c : Int} {a : List Val} (h : aRight r c a = true) (i : Nat) (hi : (i : Int) < r) : aRight 1 c ((a.drop (i * c.toNat)).take c.toNat) = true := by
  obtain ⟨f1, e1, k1⟩ := aRight_yes h
  obtain ⟨R, C, rfl, rfl, g1, g2, _, _, g3⟩ := fits_nat f1
  have l1 : a.length = R * C := by rw [← Int.natCast_mul] at e1; exact_mod_cast e1
  have hi2 : (i + 1) * C ≤ R * C := Nat.mul_le_mul_right C (by omega)
  rw [Nat.add_mul, Nat.one_mul] at hi2
  rw [Int.toNat_natCast]
  unfold aRight
  have := fits_of (R := 1) (C := C) (Nat.le_refl _) g2 (by have := Nat.mul_le_mul_right C g1; omega)
  rw [show ((1 : Nat) : Int) = 1 from rfl] at this
  rw [this]
  simp only [Bool.true_and, Bool.and_eq_true, decide_eq_true_eq, List.all_eq_true]
  refine ⟨by rw [List.length_take, List.length_drop]; omega, fun v hv => k1 v (List.mem_of_mem_drop (List.mem_of_mem_take hv))⟩
end Go.Proofs.YteccjdclkcipbaaGreatDoor
