/-
  Values' cells in a row of the call's own; blocks apart.
-/
import Derived.Test.YtpdaloohgfnbhaaGreatDoorCsv9
import Derived.OwnWalkIn
import Derived.Laws.CopyRow
import Derived.Laws.IdiomCopy
import Derived.Test.YtpdaloohgfnbhaaGreatDoorOrd2
namespace Go.Proofs.YtpdaloohgfnbhaaGreatDoor
open Go.RowKit

def vcells (vs : List Val) : List Value := vs.flatMap (fun v => (valC v).toList)
theorem vcells_cons (v : Val) (t : List Val) : vcells (v :: t) = .int .i64 v.kind :: .int .i64 v.mant :: .int .i64 v.exp :: .string ⟨v.text.toArray⟩ :: .bool v.truth :: .int .i64 v.fault :: vcells t := rfl
theorem vcells_app (a b : List Val) : vcells (a ++ b) = vcells a ++ vcells b := List.flatMap_append
theorem vcells_len : ∀ vs : List Val, (vcells vs).length = vs.length * 6
  | [] => rfl
  | v :: t => by
    rw [vcells_cons]
    simp only [List.length_cons, vcells_len t]
    omega
theorem vcells_get : ∀ (vs : List Val) (j : Nat) (h : j < vs.length), (vcells vs)[j * 6]? = some (.int .i64 vs[j].kind) ∧ (vcells vs)[j * 6 + 1]? = some (.int .i64 vs[j].mant) ∧ (vcells vs)[j * 6 + 2]? = some (.int .i64 vs[j].exp) ∧ (vcells vs)[j * 6 + 3]? = some (.string ⟨vs[j].text.toArray⟩) ∧ (vcells vs)[j * 6 + 4]? = some (.bool vs[j].truth) ∧ (vcells vs)[j * 6 + 5]? = some (.int .i64 vs[j].fault)
  | [], j, h => by simp at h
  | v :: t, 0, _ => ⟨rfl, rfl, rfl, rfl, rfl, rfl⟩
  | v :: t, j + 1, h => by
    have ih := vcells_get t j (by simpa using h)
    rw [vcells_cons, Nat.add_mul, Nat.one_mul]
    exact ih
theorem vcells_set : ∀ (vs : List Val) (j : Nat) (v : Val), j < vs.length → ((((((vcells vs).set (j * 6) (.int .i64 v.kind)).set (j * 6 + 1) (.int .i64 v.mant)).set (j * 6 + 2) (.int .i64 v.exp)).set (j * 6 + 3) (.string ⟨v.text.toArray⟩)).set (j * 6 + 4) (.bool v.truth)).set (j * 6 + 5) (.int .i64 v.fault) = vcells (vs.set j v)
  | [], j, v, h => by simp at h
  | u :: t, 0, v, _ => rfl
  | u :: t, j + 1, v, h => by
    have ih := vcells_set t j v (by simpa using h)
    rw [List.set_cons_succ, vcells_cons, vcells_cons, ← ih, Nat.add_mul, Nat.one_mul]
    rfl
theorem vcells_one : ∀ vs : List Val, ∀ u ∈ vcells vs, u.oneCell' = true := by
  intro vs u hu
  obtain ⟨v, _, hv⟩ := List.mem_flatMap.1 hu
  simp at hv
  rcases hv with rfl | rfl | rfl | rfl | rfl | rfl <;> rfl
theorem vcells_blanks (n : Nat) : (madeCells (Value.agg (valC ⟨0, 0, 0, [], false, 0⟩)).cells (n * 6)).toList = vcells (List.replicate n ⟨0, 0, 0, [], false, 0⟩) := by
  have hc : (Value.agg (valC ⟨0, 0, 0, [], false, 0⟩)).cells = valC ⟨0, 0, 0, [], false, 0⟩ := rfl
  rw [hc]
  apply List.ext_getElem?
  intro k
  by_cases hk : k < n * 6
  · obtain ⟨j, i, hi, rfl⟩ : ∃ j i, i < 6 ∧ k = j * 6 + i := ⟨k / 6, k % 6, Nat.mod_lt _ (by omega), by omega⟩
    have hj : j < (List.replicate n (⟨0, 0, 0, [], false, 0⟩ : Val)).length := by rw [List.length_replicate]; omega
    obtain ⟨g0, g1, g2, g3, g4, g5⟩ := vcells_get _ j hj
    simp only [List.getElem_replicate] at g0 g1 g2 g3 g4 g5
    have hm : (madeCells (valC ⟨0, 0, 0, [], false, 0⟩) (n * 6)).toList[j * 6 + i]? = (valC ⟨0, 0, 0, [], false, 0⟩)[i]? := by
      simp only [madeCells, Array.getElem?_toList]
      simp [hk]
      rcases i with _ | _ | _ | _ | _ | _ | i
      · rfl
      · rfl
      · rfl
      · rfl
      · rfl
      · rfl
      · omega
    rw [hm]
    rcases i with _ | _ | _ | _ | _ | _ | i
    · exact g0.symm
    · exact g1.symm
    · exact g2.symm
    · exact g3.symm
    · exact g4.symm
    · exact g5.symm
    · omega
  · rw [List.getElem?_eq_none (by simp [madeCells]; omega), List.getElem?_eq_none (by rw [vcells_len, List.length_replicate]; omega)]
theorem infoVal : (Tryz.prog.info? 35).map (fun i => (i.zero, i.size, i.bytes)) = some (some (.agg (valC ⟨0, 0, 0, [], false, 0⟩)), 6, 56) := by kernel_rfl
theorem infoVals : (Tryz.prog.info? 23).map (fun i => (i.zero, i.size, i.bytes)) = some (some (.slice none 0 0), 1, 24) := by kernel_rfl
/-- a row of values that a call has made -/
abbrev VOwn (w : World) (base : Nat) (v : Value) (vs : List Val) : Prop := w.ownsRow base 35 6 v vs.length (vcells vs)
theorem VOwn.vsl {w : World} {base n c : Nat} {A : Option Addr} {vs : List Val} (h : VOwn w base (.slice A n c) vs) : n = vs.length ∧ VSl w A vs := by
  rcases h.2 with ⟨e, h0⟩ | ⟨g, cap, cur, e, hb, hg, _⟩
  · injection e with e1 e2 e3
    exact ⟨by omega, fun hp => by omega⟩
  · injection e with e1 e2 e3
    subst e1
    refine ⟨e2, fun hp => ⟨g, 0, rfl, (h.lt g rfl).2, fun j hj => ?_⟩⟩
    have k : ∀ i, i < vs.length * 6 → w.cell? ⟨g, i, none⟩ = (vcells vs)[i]? := fun i hi => by
      have hi2 : i < (vcells vs).length := by rw [vcells_len]; exact hi
      have := h.cells (g := g) rfl i (vcells vs)[i] (List.getElem?_eq_getElem hi2)
      rw [List.getElem?_eq_getElem hi2, ← this]
      unfold Addr.add
      split
      · next h => rw [h]
      · rw [Nat.zero_add]
    obtain ⟨g0, g1, g2, g3, g4, g5⟩ := vcells_get vs j hj
    rw [Nat.zero_add, k _ (by omega), k _ (by omega), k _ (by omega), k _ (by omega), k _ (by omega), k _ (by omega)]
    exact ⟨g0, g1, g2, g3, g4, g5⟩
theorem below_set {q : Nat} {w X : World} (h : Below q w X) {b : Nat} (hb : q ≤ b) (i : Nat) (u : Value) : Below q w (X.setCell ⟨b, i, none⟩ u) := h.setCell (p := ⟨b, i, none⟩) hb u
theorem lies_off {w : World} {g : Nat} {t : TypeId} {cs : Array Value} (h : Lies w g t cs) {b : Nat} (hb : g ≠ b) (i : Nat) (u : Value) : Lies (w.setCell ⟨b, i, none⟩ u) g t cs :=
  (heap_setCell_other w ⟨b, i, none⟩ g u hb).trans h
theorem make_vals (P : Nat) (hP : P ≤ 1000000) : ∃ cs : Array Value, cs.toList = vcells (List.replicate P ⟨0, 0, 0, [], false, 0⟩) ∧ ∀ W : World, (Instr.makeSlice 23 (.int .i64 (P : Int)) (.int .i64 (P : Int))).run Tryz.prog W = .ok (.slice (some ⟨W.heap.size, 0, none⟩) P P) (W.alloc (.cells cs 35)) := by
  obtain ⟨i1, gi, gz0, gz1, gz2⟩ := info_parts infoVal
  refine ⟨_, vcells_blanks P, fun W => ?_⟩
  have h := run_make (P := Tryz.prog) W 23 35 i1 _ Tryz.underlying23 gi gz0 .i64 .i64 (P : Int) (P : Int) (by omega) (Int.le_refl _) (by rw [gz2]; omega) (by omega)
  rw [gz1] at h
  simpa using h
end Go.Proofs.YtpdaloohgfnbhaaGreatDoor
