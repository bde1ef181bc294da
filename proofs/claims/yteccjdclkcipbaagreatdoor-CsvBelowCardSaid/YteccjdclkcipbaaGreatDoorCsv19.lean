/-
  csv in plain words: what counterpaneref32.Read makes of rows of words is what csv.Read makes of the text.
-/
import Derived.Test.YteccjdclkcipbaaGreatDoorCsv5
import Derived.Test.YteccjdclkcipbaaGreatDoorCsv14
namespace Go.Proofs.YteccjdclkcipbaaGreatDoor
open Go.RowKit

theorem cLines_rows : ∀ (n : Nat) (s : Bs) (acc : List (List Bs)), s.length ≤ n → ∃ rs e, cRows s acc = (acc ++ rs, e) ∧ cLines s = rs.map (fun l => (l, (0 : Int))) ++ (if e ≠ 0 then [([], e)] else []) := by
  intro n
  induction n with
  | zero =>
    intro s acc hs
    obtain rfl := List.eq_nil_of_length_eq_zero (by omega : s.length = 0)
    refine ⟨[], 0, ?_, ?_⟩
    · rw [cRows_step, if_pos rfl, List.append_nil]
    · rw [cLines_step, if_pos rfl]; rfl
  | succ n ih =>
    intro s acc hs
    by_cases h0 : s = []
    · refine ⟨[], 0, ?_, ?_⟩
      · rw [cRows_step, if_pos h0, List.append_nil]
      · rw [cLines_step, if_pos h0]; rfl
    · by_cases he : (cLine s []).2.2 ≠ 0
      · refine ⟨[], (cLine s []).2.2, ?_, ?_⟩
        · rw [cRows_step, if_neg h0, if_pos he, List.append_nil]
        · rw [cLines_step, if_neg h0, if_pos he, if_pos he]; rfl
      · have hl := (cLine_len s.length s [] (Nat.le_refl _) (Decidable.not_not.1 he)).1
        obtain ⟨rs, e, h1, h2⟩ := ih (cLine s []).2.1 (acc ++ [(cLine s []).1]) (by omega)
        refine ⟨(cLine s []).1 :: rs, e, ?_, ?_⟩
        · rw [cRows_step, if_neg h0, if_neg he, h1, List.append_assoc]; rfl
        · rw [cLines_step, if_neg h0, if_neg he, h2]; rfl
theorem cLines_cRows (s : Bs) : cLines s = (cRows s []).1.map (fun l => (l, (0 : Int))) ++ (if (cRows s []).2 ≠ 0 then [([], (cRows s []).2)] else []) := by
  obtain ⟨rs, e, h1, h2⟩ := cLines_rows s.length s [] (Nat.le_refl _)
  rw [h1, h2]
  rfl
theorem cRows_some {s : Bs} {l : List Bs} (h : l ∈ (cRows s []).1) : l ≠ [] ∧ l.length ≤ s.length ∧ ∀ y ∈ l, y.length ≤ s.length := by
  have hm : (l, (0 : Int)) ∈ cLines s := by
    rw [cLines_cRows]
    exact List.mem_append_left _ (List.mem_map.2 ⟨l, h, rfl⟩)
  obtain ⟨h1, h2⟩ := cLines_sum s.length s (Nat.le_refl _)
  have h3 : wSum l ≤ ((cLines s).map (fun x => wSum x.1)).sum := by
    have : ∀ (L : List (List Bs × Int)) (x : List Bs × Int), x ∈ L → wSum x.1 ≤ (L.map (fun x => wSum x.1)).sum := by
      intro L
      induction L with
      | nil => intro x hx; cases hx
      | cons y t ih =>
        intro x hx
        rw [List.map_cons, List.sum_cons]
        rcases List.mem_cons.1 hx with rfl | hx
        · omega
        · have := ih x hx
          omega
    exact this _ _ hm
  have h4 : ∀ ws : List Bs, ws.length ≤ wSum ws ∧ ∀ x ∈ ws, x.length ≤ wSum ws := by
    intro ws
    induction ws with
    | nil => exact ⟨by simp, by simp⟩
    | cons y t ih =>
      have e : wSum (y :: t) = y.length + 1 + wSum t := by unfold wSum; rw [List.map_cons, List.sum_cons]
      refine ⟨by rw [e, List.length_cons]; omega, fun x hx => ?_⟩
      rcases List.mem_cons.1 hx with rfl | hx
      · omega
      · have := ih.2 x hx
        omega
  obtain ⟨h5, h6⟩ := h4 l
  exact ⟨h2 _ hm rfl, by omega, fun y hy => by have := h6 y hy; omega⟩
/-- the values of words -/
def mV (l : List Bs) : List Val := l.map (fun w => (vMeant w).1)
/-- the columns that so many rows need -/
def colsOf (rs : List (List Bs)) (i : Nat) : Nat := (rs.take i).foldl (fun c l => max c l.length) 0
theorem colsOf_zero (rs : List (List Bs)) : colsOf rs 0 = 0 := rfl
theorem colsOf_succ (rs : List (List Bs)) (i : Nat) (h : i < rs.length) : colsOf rs (i + 1) = max (colsOf rs i) rs[i].length := by
  unfold colsOf
  rw [List.take_succ_eq_append_getElem h, List.foldl_append]
  rfl
/-- where the check of the rows stands: nothing wrong so far -/
def RGood (s : Bs) (i : Nat) : Prop := cRead s = cReadGo (((cRows s []).1.drop i).map (fun l => (l, (0 : Int))) ++ (if (cRows s []).2 ≠ 0 then [([], (cRows s []).2)] else [])) (((cRows s []).1.take i).map mV) (colsOf (cRows s []).1 i)
theorem RGood.zero (s : Bs) : RGood s 0 := by
  unfold RGood cRead
  rw [cLines_cRows s]
  rfl
theorem RGood.step {s : Bs} {i : Nat} (h : RGood s i) (hi : i < (cRows s []).1.length) :
    cRead s = if ((cRows s []).1[i]).all (fun w => (vMeant w).2) = false then ((0, 0, []), i + 1, 14)
      else if 4096 < (i + 1) * colsOf (cRows s []).1 (i + 1) then ((0, 0, []), i + 1, 5) else cRead s := by
  have hl : (((cRows s []).1.take i).map mV).length = i := by rw [List.length_map, List.length_take]; omega
  rw [colsOf_succ _ _ hi]
  unfold RGood at h
  rw [List.drop_eq_getElem_cons hi, List.map_cons, List.cons_append, cReadGo, if_neg (by simp), hl] at h
  split
  · next h1 => rw [h, if_pos h1]
  · next h1 =>
    rw [if_neg h1] at h
    split
    · next h2 => rw [h, if_pos h2]
    · rfl
theorem RGood.next {s : Bs} {i : Nat} (h : RGood s i) (hi : i < (cRows s []).1.length) (h1 : ((cRows s []).1[i]).all (fun w => (vMeant w).2) = true) (h2 : (i + 1) * colsOf (cRows s []).1 (i + 1) ≤ 4096) : RGood s (i + 1) := by
  have hl : (((cRows s []).1.take i).map mV).length = i := by rw [List.length_map, List.length_take]; omega
  rw [colsOf_succ _ _ hi] at h2
  unfold RGood at h ⊢
  rw [h, List.drop_eq_getElem_cons hi, List.map_cons, List.cons_append, cReadGo, if_neg (by simp), hl, if_neg (by rw [h1]; decide), if_neg (show ¬ 4096 < (i + 1) * max (colsOf (cRows s []).1 i) ((cRows s []).1[i]).length by omega), colsOf_succ _ _ hi, List.take_succ_eq_append_getElem hi, List.map_append]
  rfl
theorem RGood.done {s : Bs} (h : RGood s (cRows s []).1.length) :
    cRead s = if (cRows s []).2 ≠ 0 then ((0, 0, []), (cRows s []).1.length + 1, (cRows s []).2) else if (cRows s []).1 = [] then ((0, 0, []), 1, 13) else (((cRows s []).1.length, colsOf (cRows s []).1 (cRows s []).1.length, padAll ((cRows s []).1.map mV) (colsOf (cRows s []).1 (cRows s []).1.length)), 0, 0) := by
  unfold RGood at h
  rw [h, List.drop_length, List.take_length, List.map_nil, List.nil_append]
  split
  · next he => rw [cReadGo, if_pos he, List.length_map]
  · next he =>
    rw [cReadGo]
    by_cases h0 : (cRows s []).1 = []
    · rw [if_pos h0, h0]; rfl
    · rw [if_neg h0, if_neg (by simpa using h0), List.length_map]
theorem cRead_nil : cRead [] = ((0, 0, []), 1, 13) := rfl
/-- a text that isn't empty, and has no wrong line, has a line -/
theorem cRows_nonempty {s : Bs} (hs : s ≠ []) (h : (cRows s []).2 = 0) : (cRows s []).1 ≠ [] := by
  rw [cRows_step, if_neg hs] at h ⊢
  by_cases he : (cLine s []).2.2 ≠ 0
  · rw [if_pos he] at h
    exact absurd h he
  · rw [if_neg he]
    obtain ⟨rs, e, h1, _⟩ := cLines_rows _ (cLine s []).2.1 ([] ++ [(cLine s []).1]) (Nat.le_refl _)
    rw [h1]
    simp
/-- the cell of a row that is filled up with blanks -/
def padW (l : List Bs) (k : Nat) : Val := if h : k < l.length then (vMeant l[k]).1 else ⟨0, 0, 0, [], false, 0⟩
theorem pad_row (l : List Bs) (cols : Nat) (h : l.length ≤ cols) : ∀ k, k ≤ cols → (List.range k).map (padW l) = (mV l ++ List.replicate (cols - l.length) (⟨0, 0, 0, [], false, 0⟩ : Val)).take k := by
  intro k
  induction k with
  | zero => intro _; simp
  | succ k ih =>
    intro hk
    have hlen : (mV l ++ List.replicate (cols - l.length) (⟨0, 0, 0, [], false, 0⟩ : Val)).length = cols := by unfold mV; simp; omega
    rw [List.range_succ, List.map_append, ih (by omega), List.take_succ_eq_append_getElem (by omega)]
    congr 1
    rw [List.map_singleton]
    congr 1
    unfold padW
    split
    · next h1 => rw [List.getElem_append_left (by unfold mV; simpa using h1)]; simp [mV]
    · next h1 => rw [List.getElem_append_right (by unfold mV; simpa using h1)]; simp
theorem pad_row_all (l : List Bs) (cols : Nat) (h : l.length ≤ cols) : (List.range cols).map (padW l) = mV l ++ List.replicate (cols - l.length) (⟨0, 0, 0, [], false, 0⟩ : Val) := by
  rw [pad_row l cols h cols (Nat.le_refl _), List.take_of_length_le]
  unfold mV
  simp
  omega
theorem colsOf_le (rs : List (List Bs)) : ∀ i, i ≤ rs.length → ∀ l ∈ rs.take i, l.length ≤ colsOf rs i := by
  intro i
  induction i with
  | zero => intro _ l hl; simp at hl
  | succ i ih =>
    intro hi l hl
    rw [colsOf_succ rs i (by omega)]
    rw [List.take_succ_eq_append_getElem (by omega)] at hl
    rcases List.mem_append.1 hl with hl | hl
    · have := ih (by omega) l hl
      omega
    · rw [List.mem_singleton] at hl
      subst hl
      omega
/-- the values that stand when i rows and k columns of the next one are put down -/
def fillR (rs : List (List Bs)) (cols i k : Nat) : List Val := padAll ((rs.take i).map mV) cols ++ (List.range k).map (padW (rs.getD i []))
theorem fillR_zero (rs : List (List Bs)) (cols : Nat) : fillR rs cols 0 0 = [] := rfl
theorem fillR_cell (rs : List (List Bs)) (cols i k : Nat) : fillR rs cols i (k + 1) = fillR rs cols i k ++ [padW (rs.getD i []) k] := by
  unfold fillR
  rw [List.range_succ, List.map_append, List.append_assoc]
  rfl
theorem fillR_row (rs : List (List Bs)) (cols i : Nat) (hi : i < rs.length) (hc : ∀ l ∈ rs, l.length ≤ cols) : fillR rs cols i cols = fillR rs cols (i + 1) 0 := by
  have hg : rs.getD i [] = rs[i] := by simp [List.getD, List.getElem?_eq_getElem hi]
  unfold fillR
  rw [hg, pad_row_all _ _ (hc _ (List.getElem_mem hi)), List.take_succ_eq_append_getElem hi, List.map_append]
  unfold padAll
  rw [List.flatMap_append, List.map_singleton, List.flatMap_singleton, List.range_zero, List.map_nil, List.append_nil]
  congr 2
  unfold mV
  rw [List.length_map]
theorem fillR_all (rs : List (List Bs)) (cols : Nat) : fillR rs cols rs.length 0 = padAll (rs.map mV) cols := by
  unfold fillR
  rw [List.take_length]
  simp
end Go.Proofs.YteccjdclkcipbaaGreatDoor
