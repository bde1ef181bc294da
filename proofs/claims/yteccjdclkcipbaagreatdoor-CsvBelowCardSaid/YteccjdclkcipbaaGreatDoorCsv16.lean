/-
  csv.Read: rows of values in memory; what holds between the rounds; the drawn statement.
-/
import Derived.Test.YteccjdclkcipbaaGreatDoorCsv10
import Derived.Test.YteccjdclkcipbaaGreatDoorCsv5
import Derived.Test.YteccjdclkcipbaaGreatDoorCsv14
import Derived.OwnWalkIn
import Derived.Laws.CopyRow
import Derived.Laws.IdiomCopy
import Derived.Test.YteccjdclkcipbaaGreatDoorOrd2
namespace Go.Proofs.YteccjdclkcipbaaGreatDoor
open Go.RowKit

def vcells (vs : List Val) : List Value := vs.flatMap (fun v => (valC v).toList)
theorem vcells_cons (v : Val) (t : List Val) : vcells (v :: t) = .int .i64 v.kind :: .int .i64 v.mant :: .int .i64 v.exp :: .string ⟨v.text.toArray⟩ :: .bool v.truth :: .int .i64 v.fault :: vcells t := rfl
theorem vcells_app (a b : List Val) : vcells (a ++ b) = vcells a ++ vcells b := List.flatMap_append
theorem vcells_len : ∀ vs : List Val, (vcells vs).length = vs.length * 6
  | [] => rfl
  | v :: t => by
    rw [vcells_cons]
    simp only [List.length_cons, vcells_len t]
    omega
theorem vcells_get : ∀ (vs : List Val) (j : Nat) (h : j < vs.length), (vcells vs)[j * 6]? = some (.int .i64 vs[j].kind) ∧ (vcells vs)[j * 6 + 1]? = some (.int .i64 vs[j].mant) ∧ (vcells vs)[j * 6 + 2]? = some (.int .i64 vs[j].exp) ∧ (vcells vs)[j * 6 + 3]? = some (.string ⟨vs[j].text.toArray⟩) ∧ (vcells vs)[j * 6 + 4]? = some (.bool vs[j].truth) ∧ (vcells vs)[j * 6 + 5]? = some (.int .i64 vs[j].fault)
  | [], j, h => by simp at h
  | v :: t, 0, _ => ⟨rfl, rfl, rfl, rfl, rfl, rfl⟩
  | v :: t, j + 1, h => by
    have ih := vcells_get t j (by simpa using h)
    rw [vcells_cons, Nat.add_mul, Nat.one_mul]
    exact ih
theorem vcells_set : ∀ (vs : List Val) (j : Nat) (v : Val), j < vs.length → ((((((vcells vs).set (j * 6) (.int .i64 v.kind)).set (j * 6 + 1) (.int .i64 v.mant)).set (j * 6 + 2) (.int .i64 v.exp)).set (j * 6 + 3) (.string ⟨v.text.toArray⟩)).set (j * 6 + 4) (.bool v.truth)).set (j * 6 + 5) (.int .i64 v.fault) = vcells (vs.set j v)
  | [], j, v, h => by simp at h
  | u :: t, 0, v, _ => rfl
  | u :: t, j + 1, v, h => by
    have ih := vcells_set t j v (by simpa using h)
    rw [List.set_cons_succ, vcells_cons, vcells_cons, ← ih, Nat.add_mul, Nat.one_mul]
    rfl
theorem vcells_one : ∀ vs : List Val, ∀ u ∈ vcells vs, u.oneCell' = true := by
  intro vs u hu
  obtain ⟨v, _, hv⟩ := List.mem_flatMap.1 hu
  simp at hv
  rcases hv with rfl | rfl | rfl | rfl | rfl | rfl <;> rfl
theorem vcells_blanks (n : Nat) : (madeCells (Value.agg (valC ⟨0, 0, 0, [], false, 0⟩)).cells (n * 6)).toList = vcells (List.replicate n ⟨0, 0, 0, [], false, 0⟩) := by
  have hc : (Value.agg (valC ⟨0, 0, 0, [], false, 0⟩)).cells = valC ⟨0, 0, 0, [], false, 0⟩ := rfl
  rw [hc]
  apply List.ext_getElem?
  intro k
  by_cases hk : k < n * 6
  · obtain ⟨j, i, hi, rfl⟩ : ∃ j i, i < 6 ∧ k = j * 6 + i := ⟨k / 6, k % 6, Nat.mod_lt _ (by omega), by omega⟩
    have hj : j < (List.replicate n (⟨0, 0, 0, [], false, 0⟩ : Val)).length := by rw [List.length_replicate]; omega
    obtain ⟨g0, g1, g2, g3, g4, g5⟩ := vcells_get _ j hj
    simp only [List.getElem_replicate] at g0 g1 g2 g3 g4 g5
    have hm : (madeCells (valC ⟨0, 0, 0, [], false, 0⟩) (n * 6)).toList[j * 6 + i]? = (valC ⟨0, 0, 0, [], false, 0⟩)[i]? := by
      simp only [madeCells, Array.getElem?_toList]
      simp [hk]
      rcases i with _ | _ | _ | _ | _ | _ | i
      · rfl
      · rfl
      · rfl
      · rfl
      · rfl
      · rfl
      · omega
    rw [hm]
    rcases i with _ | _ | _ | _ | _ | _ | i
    · exact g0.symm
    · exact g1.symm
    · exact g2.symm
    · exact g3.symm
    · exact g4.symm
    · exact g5.symm
    · omega
  · rw [List.getElem?_eq_none (by simp [madeCells]; omega), List.getElem?_eq_none (by rw [vcells_len, List.length_replicate]; omega)]
theorem infoVal : (Tryz.prog.info? 38).map (fun i => (i.zero, i.size, i.bytes)) = some (some (.agg (valC ⟨0, 0, 0, [], false, 0⟩)), 6, 56) := by kernel_rfl
theorem infoVals : (Tryz.prog.info? 22).map (fun i => (i.zero, i.size, i.bytes)) = some (some (.slice none 0 0), 1, 24) := by kernel_rfl
/-- a row of values that a call has made -/
abbrev VOwn (w : World) (base : Nat) (v : Value) (vs : List Val) : Prop := w.ownsRow base 38 6 v vs.length (vcells vs)
theorem VOwn.vsl {w : World} {base n c : Nat} {A : Option Addr} {vs : List Val} (h : VOwn w base (.slice A n c) vs) : n = vs.length ∧ VSl w A vs := by
  rcases h.2 with ⟨e, h0⟩ | ⟨g, cap, cur, e, hb, hg, _⟩
  · injection e with e1 e2 e3
    exact ⟨by omega, fun hp => by omega⟩
  · injection e with e1 e2 e3
    subst e1
    refine ⟨e2, fun hp => ⟨g, 0, rfl, (h.lt g rfl).2, fun j hj => ?_⟩⟩
    have k : ∀ i, i < vs.length * 6 → w.cell? ⟨g, i, none⟩ = (vcells vs)[i]? := fun i hi => by
      have hi2 : i < (vcells vs).length := by rw [vcells_len]; exact hi
      have := h.cells (g := g) rfl i (vcells vs)[i] (List.getElem?_eq_getElem hi2)
      rw [List.getElem?_eq_getElem hi2, ← this]
      unfold Addr.add
      split
      · next h => rw [h]
      · rw [Nat.zero_add]
    obtain ⟨g0, g1, g2, g3, g4, g5⟩ := vcells_get vs j hj
    rw [Nat.zero_add, k _ (by omega), k _ (by omega), k _ (by omega), k _ (by omega), k _ (by omega), k _ (by omega)]
    exact ⟨g0, g1, g2, g3, g4, g5⟩
/-- rows of values in memory -/
def VRowsAt (w : World) (base : Nat) (v : Value) (rows : List (List Val)) : Prop := ∃ us : List Value, us.length = rows.length ∧ w.ownsRow base 22 1 v rows.length us ∧ ∀ (i : Nat) u r, us[i]? = some u → rows[i]? = some r → VOwn w base u r
theorem VRowsAt.nil (w : World) (base : Nat) : VRowsAt w base (.slice none 0 0) [] := ⟨[], rfl, World.ownsRow_nil _ _ _ _, fun i u r hu _ => by simp at hu⟩
theorem VRowsAt.next {w w' : World} {base : Nat} {v : Value} {rows : List (List Val)} (h : VRowsAt w base v rows) (hb : Below w.heap.size w w') : VRowsAt w' base v rows := by
  obtain ⟨us, h1, h2, h3⟩ := h
  exact ⟨us, h1, own_next hb h2, fun i u r hu hr => own_next hb (h3 i u r hu hr)⟩
theorem VRowsAt.other {w w' : World} {row : Option Nat} {base : Nat} {v : Value} {rows : List (List Val)} (h : VRowsAt w base v rows) (hg : w.grownBy w' row) (hr : ∀ r, row = some r → ∃ o : Obj, w.heap[r]? = some o ∧ o.isCells = false) : VRowsAt w' base v rows := by
  obtain ⟨us, h1, h2, h3⟩ := h
  exact ⟨us, h1, own_other h2 hg hr, fun i u r hu hr' => own_other (h3 i u r hu hr') hg hr⟩
theorem VRowsAt.set {w : World} {base : Nat} {v : Value} {rows : List (List Val)} (h : VRowsAt w base v rows) {a : Addr} (ha : a.block < base) (u : Value) : VRowsAt (w.setCell a u) base v rows := by
  obtain ⟨us, h1, h2, h3⟩ := h
  exact ⟨us, h1, ownsRow_setCell_below h2 ha u, fun i x r hu hr => ownsRow_setCell_below (h3 i x r hu hr) ha u⟩
theorem VRowsAt.slice {w : World} {base : Nat} {v : Value} {rows : List (List Val)} (h : VRowsAt w base v rows) : ∃ A c, v = .slice A rows.length c := by
  obtain ⟨us, h1, h2, h3⟩ := h
  exact own_slice h2
/-- a row appended -/
theorem VRowsAt.push {w w1 w2 : World} {base : Nat} {v v' : Value} {rows : List (List Val)} {r : List Val} {u : Value} {us : List Value} (h1 : us.length = rows.length) (h2 : w.ownsRow base 22 1 v rows.length us) (h3 : ∀ (i : Nat) u r, us[i]? = some u → rows[i]? = some r → VOwn w base u r)
    (hu : VOwn w base u r) (hw : Below w.heap.size w w1) (ho : w2.ownsRow base 22 1 v' (rows.length + 1) (us ++ [u])) (hg : w1.grownBy w2 v.ownBlock) : VRowsAt w2 base v' (rows ++ [r]) := by
  refine ⟨us ++ [u], by simp [h1], by simpa using ho, fun i x y a b => ?_⟩
  have ho1 := own_next hw h2
  rcases Nat.lt_or_ge i us.length with hi' | hi'
  · rw [List.getElem?_append_left hi'] at a
    rw [List.getElem?_append_left (by rw [← h1]; exact hi')] at b
    have := own_next hw (h3 i x y a b)
    exact this.kept hg (own_two this ho1 (by decide))
  · rw [List.getElem?_append_right hi'] at a
    rw [List.getElem?_append_right (by rw [← h1]; exact hi'), ← h1] at b
    obtain ⟨k, hk⟩ : ∃ k, i - us.length = k := ⟨_, rfl⟩
    rw [hk] at a b
    cases k with
    | zero =>
      simp at a b
      subst a
      subst b
      have := own_next hw hu
      exact this.kept hg (own_two this ho1 (by decide))
    | succ k => simp at a
/-- a value stored at a place of a row -/
def set6 (W : World) (g j : Nat) (v : Val) : World := (((((W.setCell ⟨g, j * 6, none⟩ (.int .i64 v.kind)).setCell ⟨g, j * 6 + 1, none⟩ (.int .i64 v.mant)).setCell ⟨g, j * 6 + 2, none⟩ (.int .i64 v.exp)).setCell ⟨g, j * 6 + 3, none⟩ (.string ⟨v.text.toArray⟩)).setCell ⟨g, j * 6 + 4, none⟩ (.bool v.truth)).setCell ⟨g, j * 6 + 5, none⟩ (.int .i64 v.fault)
theorem set6_own {W : World} {base g n cap : Nat} {vs : List Val} (h : W.ownsRow base 38 6 (.slice (some ⟨g, 0, none⟩) n cap) n (vcells vs)) (j : Nat) (v : Val) (hj : j < vs.length) : (set6 W g j v).ownsRow base 38 6 (.slice (some ⟨g, 0, none⟩) n cap) n (vcells (vs.set j v)) := by
  have h1 := (h.stored (j * 6) (.int .i64 v.kind)).1
  have h2 := (h1.stored (j * 6 + 1) (.int .i64 v.mant)).1
  have h3 := (h2.stored (j * 6 + 2) (.int .i64 v.exp)).1
  have h4 := (h3.stored (j * 6 + 3) (.string ⟨v.text.toArray⟩)).1
  have h5 := (h4.stored (j * 6 + 4) (.bool v.truth)).1
  have h6 := (h5.stored (j * 6 + 5) (.int .i64 v.fault)).1
  rw [vcells_set vs j v hj] at h6
  exact h6
theorem set6_below {b : Nat} {w W : World} (h : Below b w W) {g : Nat} (hg : b ≤ g) (j : Nat) (v : Val) : Below b w (set6 W g j v) :=
  (((((h.setCell (p := ⟨g, j * 6, none⟩) hg _).setCell (p := ⟨g, j * 6 + 1, none⟩) hg _).setCell (p := ⟨g, j * 6 + 2, none⟩) hg _).setCell (p := ⟨g, j * 6 + 3, none⟩) hg _).setCell (p := ⟨g, j * 6 + 4, none⟩) hg _).setCell (p := ⟨g, j * 6 + 5, none⟩) hg _
theorem wpListIn_make_full {F : Fence} {n : Nat} {P : Program} (w : World) {ops : Array Oper} {rest : List Oper} {o : Oper} {a : Act} {Q : Exit → Act → World → Prop}
    (hg : o.guard = none) (l c : Operand) (t : TypeId) (hop : o.op = Op.makeSlice t l c)
    (base : Nat) (e : TypeId) (i : TypeInfo) (z : Value) (size : Nat) (h1 : P.underlying t = some (.slice e)) (h2 : P.info? e = some i) (h3 : i.zero = some z) (h4 : i.size = size)
    (kl kc : IntKind) (L C : Int) (m : Nat) (hl : a.eval l = .int kl L) (hc : a.eval c = .int kc C) (hL : L = (m : Int)) (hC : C = (m : Int)) (b2 : i.bytes * m ≤ 281474976710656) (b3 : m ≤ maxLen) (b4 : base ≤ w.heap.size)
    (hK : ∀ w', w'.ownsRow base e size (.slice (some ⟨w.heap.size, 0, none⟩) m m) m (madeCells z.cells (m * size)).toList → w.grownBy w' none → wpListIn F n P ops Q rest (a.put o.dst (.slice (some ⟨w.heap.size, 0, none⟩) m m)) w') :
    wpListIn F n P ops Q (o :: rest) a w := by
  refine wpListIn_plain hg fun K hK' => ?_
  obtain ⟨w', hrun, r1, r2⟩ := run_make_full (P := P) w base t e i z size h1 h2 h3 h4 kl kc m b2 b3 b4
  subst hL
  subst hC
  unfold Oper.wpIn
  refine ⟨?_, ?_⟩
  · simp [Oper.about, hop]
  · rw [Oper.semAt_plain F _ _ (by rw [hop]; intro c hc'; cases hc')]
    simp [execOp, hop, hl, hc, hrun, Result.andThen]
    exact hK' _ _ (hK w' r1 r2)
theorem run_copy_rows {P : Program} (w : World) (dT sT ty elem : TypeId) (size g o dLen dCap : Nat) (a : Addr) (sLen sCap : Nat) (cur : Array Value) (t : TypeId) (cs : List Value) (k : Nat)
    (hu : P.underlying dT = some (.slice elem)) (hs : (P.info? elem).map (·.size) = some size)
    (hg : w.heap[g]? = some (.cells cur t (0, 0))) (hk : Nat.min sLen dLen = k) (hn : cs.length = k * size)
    (hsrc : ∀ j v, cs[j]? = some v → w.cell? (a.add j) = some v) (hfit : o + cs.length ≤ cur.size) (h1 : ∀ v ∈ cs, v.oneCell' = true) :
    (Builtin.copy_ #[dT, sT] ty #[.slice (some ⟨g, o, none⟩) dLen dCap, .slice (some a) sLen sCap]).run P w =
      .ok (goInt k) (w.setRow g (cur.toList.take o ++ cs ++ cur.toList.drop (o + cs.length)).toArray) := by
  have hl := run_loadCells_list (P := P) w a cs hsrc
  have hst := run_storeCells_at P g o t cs 0 cur w hg (by simpa using hfit) h1
  cases hq : P.info? elem with
  | none => simp [hq] at hs
  | some i =>
    have hi : i.size = size := by simpa [hq] using hs
    simp [Builtin.copy_, run_underlying hu, Builtin.lenOf, Builtin.firstCells, sizeOf, typeInfo, hq, hi, hk, ← hn, hl, hst]
theorem wpListIn_copy_rows {F : Fence} {n : Nat} {P : Program} (w : World) {ops : Array Oper} {rest : List Oper} {o : Oper} {a : Act} {Q : Exit → Act → World → Prop} (hgd : o.guard = none) (d s : Operand) (dT sT : TypeId)
    (hop : o.op = .call { callee := .builtin .copy, args := #[d, s], argTypes := #[dT, sT] }) (elem : TypeId) (size : Nat) (hu : P.underlying dT = some (.slice elem)) (hsz : (P.info? elem).map (·.size) = some size)
    (g off dLen dCap : Nat) (ad : Addr) (sLen sCap : Nat) (hd : a.eval d = .slice (some ⟨g, off, none⟩) dLen dCap) (hs : a.eval s = .slice (some ad) sLen sCap)
    (cur : Array Value) (t : TypeId) (hg : w.heap[g]? = some (.cells cur t (0, 0))) (cs : List Value) (k : Nat) (hk : Nat.min sLen dLen = k) (hn : cs.length = k * size)
    (hsrc : ∀ j v, cs[j]? = some v → w.cell? (ad.add j) = some v) (hfit : off + cs.length ≤ cur.size) (h1 : ∀ v ∈ cs, v.oneCell' = true)
    (h : ∀ W, Hid (W = w.setRow g (cur.toList.take off ++ cs ++ cur.toList.drop (off + cs.length)).toArray) → wpListIn F n P ops Q rest (a.put o.dst (goInt k)) W) :
    wpListIn F n P ops Q (o :: rest) a w := by
  refine wpListIn_plain hgd fun K hK' => ?_
  have hrun := run_copy_rows (P := P) w dT sT o.type elem size g off dLen dCap ad sLen sCap cur t cs k hu hsz hg hk hn hsrc hfit h1
  unfold Oper.wpIn
  refine ⟨?_, ?_⟩
  · simp [Oper.about, hop, resolve, Target.leads, Sem.run_pure]
  · rw [Oper.semAt_plain F _ _ (by rw [hop]; intro c hc'; cases hc')]
    simp [execOp, hop, resolve, invoke, builtin, hd, hs, hrun, Result.andThen]
    exact hK' _ _ (by simpa using h _ (Lib.hid rfl))
open Go.RowKit Go.Shelf
attribute [local go_sem] Oper.semAt_some

/-- csv.Read's cells: its results (still zero), the rows, the columns -/
structure CSt (w : World) (q : Nat) (v : Value) (rows : List (List Val)) (cols : Nat) (X : World) : Prop where
  l0 : Lies X q 24 #[.int .i64 0, .int .i64 0, .slice none 0 0]
  l1 : Lies X (q + 1) 3 #[.int .i64 0]
  l2 : Lies X (q + 2) 28 #[.int .i64 0]
  l3 : Lies X (q + 3) 52 #[v]
  l4 : Lies X (q + 4) 3 #[.int .i64 (cols : Int)]
  rows : VRowsAt X (q + 6) v rows
  bel : Below q w X
theorem CSt.next {w X Y : World} {q : Nat} {v : Value} {rows : List (List Val)} {cols : Nat} (h : CSt w q v rows cols X) (hb : Below X.heap.size X Y) : CSt w q v rows cols Y :=
  ⟨h.l0.next hb, h.l1.next hb, h.l2.next hb, h.l3.next hb, h.l4.next hb, h.rows.next hb, h.bel.trans (hb.mono (by have := h.l0.lt; omega))⟩
theorem lies_other {W W' : World} {g : Nat} {t : TypeId} {cs : Array Value} {row : Option Nat} (h : Lies W g t cs) (hg : W.grownBy W' row) (hr : ∀ r, row = some r → ∃ o : Obj, W.heap[r]? = some o ∧ o.isCells = false) : Lies W' g t cs := by
  refine h.grown hg (fun e => ?_)
  obtain ⟨o, h1, h2⟩ := hr g e.symm
  unfold Lies at h
  rw [h] at h1
  cases h1
  cases h2
theorem below_other {q : Nat} {w W W' : World} {row : Option Nat} (h : Below q w W) (hq : q ≤ w.heap.size) (hg : W.grownBy W' row) (hr : ∀ r, row = some r → q ≤ r) : Below q w W' := h.grown hg (Nat.le_trans hq h.size) hr
theorem CSt.other {w X Y : World} {q : Nat} {v : Value} {rows : List (List Val)} {cols : Nat} {row : Option Nat} (h : CSt w q v rows cols X) (hq : q = w.heap.size) (hg : X.grownBy Y row) (hr : ∀ r, row = some r → q ≤ r ∧ ∃ o : Obj, X.heap[r]? = some o ∧ o.isCells = false) : CSt w q v rows cols Y :=
  ⟨lies_other h.l0 hg (fun r e => (hr r e).2), lies_other h.l1 hg (fun r e => (hr r e).2), lies_other h.l2 hg (fun r e => (hr r e).2), lies_other h.l3 hg (fun r e => (hr r e).2), lies_other h.l4 hg (fun r e => (hr r e).2), h.rows.other hg (fun r e => (hr r e).2), below_other h.bel (by omega) hg (fun r e => (hr r e).1)⟩
/-- how far the reading has come -/
def CRel (pre : List LX) (rows : List (List Val)) (cols : Nat) : Prop := (∃ used, RdOk rows cols used) ∧ ∀ rest, cReadGo (pre.map LX.key ++ rest) [] 0 = cReadGo rest rows cols
theorem CRel.nil : CRel [] [] 0 := ⟨⟨0, RdOk.nil⟩, fun _ => rfl⟩
theorem cReadGo_key (x : LX) (t : List (List Bs × Int)) (rows : List (List Val)) (cols : Nat) : cReadGo (x.key :: t) rows cols = if x.er ≠ 0 then ((0, 0, []), rows.length + 1, x.er)
    else if x.ws.all (fun w => (vMeant w).2) = false then ((0, 0, []), rows.length + 1, 14)
    else if 4096 < (rows.length + 1) * max cols x.ws.length then ((0, 0, []), rows.length + 1, 5)
    else cReadGo t (rows ++ [x.ws.map (fun w => (vMeant w).1)]) (max cols x.ws.length) := rfl
theorem RdOk.len {rows : List (List Val)} {cols used : Nat} (h : RdOk rows cols used) : rows.length ≤ 4096 := by
  by_cases h0 : rows = []
  · rw [h0]; simp
  · obtain ⟨l, hl⟩ := List.exists_mem_of_ne_nil rows h0
    have h1 := h.each l hl
    have h2 := Nat.le_mul_of_pos_right rows.length (show 0 < cols by omega)
    have := h.size
    omega
/-- a line that can't be read: what the whole text comes to -/
theorem CRel.bad {s : Bs} {pre : List LX} {x : LX} {rows : List (List Val)} {cols : Nat} (h : CRel pre rows cols) (hp : (pre ++ [x]).map LX.key <+: cLines s) :
    cRead s = if x.er ≠ 0 then ((0, 0, []), rows.length + 1, x.er) else if x.ws.all (fun w => (vMeant w).2) = false then ((0, 0, []), rows.length + 1, 14)
      else if 4096 < (rows.length + 1) * max cols x.ws.length then ((0, 0, []), rows.length + 1, 5) else cRead s := by
  obtain ⟨t, ht⟩ := hp
  rw [List.map_append, List.append_assoc] at ht
  have e : cRead s = cReadGo (x.key :: t) rows cols := by
    unfold cRead
    rw [← ht]
    exact h.2 _
  by_cases h0 : x.er ≠ 0
  · rw [if_pos h0, e, cReadGo_key, if_pos h0]
  · rw [if_neg h0]
    by_cases hm : x.ws.all (fun w => (vMeant w).2) = false
    · rw [if_pos hm, e, cReadGo_key, if_neg h0, if_pos hm]
    · rw [if_neg hm]
      by_cases hs : 4096 < (rows.length + 1) * max cols x.ws.length
      · rw [if_pos hs, e, cReadGo_key, if_neg h0, if_neg hm, if_pos hs]
      · rw [if_neg hs]
theorem CRel.step {s : Bs} {pre : List LX} {x : LX} {rows : List (List Val)} {cols : Nat} (h : CRel pre rows cols) (hp : (pre ++ [x]).map LX.key <+: cLines s) (h0 : x.er = 0) (hm : x.ws.all (fun w => (vMeant w).2) = true) (hs : ¬ 4096 < (rows.length + 1) * max cols x.ws.length) :
    CRel (pre ++ [x]) (rows ++ [x.ws.map (fun w => (vMeant w).1)]) (max cols x.ws.length) := by
  obtain ⟨⟨used, hu⟩, hr⟩ := h
  have hmem : x.key ∈ cLines s := hp.subset (by simp)
  have hne := (cLines_sum s.length s (Nat.le_refl _)).2 x.key hmem h0
  refine ⟨⟨_, hu.step x.ws hne hm (by omega)⟩, fun rest => ?_⟩
  rw [List.map_append, List.append_assoc, hr]
  show cReadGo (x.key :: rest) rows cols = _
  rw [cReadGo_key, if_neg (by omega), if_neg (by rw [hm]; decide), if_neg hs]
/-- what holds between the rounds -/
def RdSt (w : World) (q : Nat) (pre : List LX) (X : World) : Prop := ∃ v rows cols, CSt w q v rows cols X ∧ CRel pre rows cols
/-- how the rounds may end -/
def RdStop (w : World) (q : Nat) (s : Bs) (c : Code) (_ : List LX) (X : World) : Prop := c = .ret ∧ ∃ (n : Nat) (er : Int), Lies X q 24 #[.int .i64 0, .int .i64 0, .slice none 0 0] ∧ Lies X (q + 1) 3 #[.int .i64 (n : Int)] ∧ Lies X (q + 2) 28 #[.int .i64 er] ∧ Below q w X ∧ cRead s = ((0, 0, []), n, er)
theorem RdSt.own {w : World} {q b : Nat} (hq : q = w.heap.size) (hb : q ≤ b) : OwnTo b (b + 2) 0 (RdSt w q) := by
  rintro pre A B row ⟨v, rows, cols, h, hr⟩ hg hrow
  refine ⟨v, rows, cols, h.other hq hg (fun r e => ?_), hr⟩
  obtain ⟨h1, h2⟩ := hrow r e
  rcases h2 with h2 | h2
  · omega
  · exact ⟨by omega, h2⟩
theorem RdStop.own {w : World} {q b : Nat} {s : Bs} (hq : q = w.heap.size) (hb : q ≤ b) (c : Code) : OwnTo b (b + 2) 0 (RdStop w q s c) := by
  rintro pre A B row ⟨hc, n, er, h1, h2, h3, h4, h5⟩ hg hrow
  have hr : ∀ r, row = some r → q ≤ r ∧ ∃ o : Obj, A.heap[r]? = some o ∧ o.isCells = false := fun r e => by
    obtain ⟨h1, h2⟩ := hrow r e
    rcases h2 with h2 | h2
    · omega
    · exact ⟨by omega, h2⟩
  exact ⟨hc, n, er, lies_other h1 hg (fun r e => (hr r e).2), lies_other h2 hg (fun r e => (hr r e).2), lies_other h3 hg (fun r e => (hr r e).2), below_other h4 (by omega) hg (fun r e => (hr r e).1), h5⟩
/-- a round leaves alone what lies below, the text's box, and what is no cells -/
structure AlikeQ (q : Nat) (X Y : World) : Prop where
  size : X.heap.size ≤ Y.heap.size
  low : ∀ (k : Nat), k < q ∨ k = q + 5 → Y.heap[k]? = X.heap[k]?
  books : ∀ (k : Nat) (o : Obj), X.heap[k]? = some o → o.isCells = false → Y.heap[k]? = some o
theorem AlikeQ.refl (q : Nat) (X : World) : AlikeQ q X X := ⟨Nat.le_refl _, fun _ _ => rfl, fun _ _ h _ => h⟩
theorem AlikeQ.trans {q : Nat} {X Y Z : World} (h1 : AlikeQ q X Y) (h2 : AlikeQ q Y Z) : AlikeQ q X Z := ⟨Nat.le_trans h1.size h2.size, fun k hk => (h2.low k hk).trans (h1.low k hk), fun k o ho hc => h2.books k o (h1.books k o ho hc) hc⟩
theorem AlikeQ.grown {q : Nat} {X Y : World} {row : Option Nat} (hX : q + 6 ≤ X.heap.size) (hg : X.grownBy Y row) (hr : ∀ r, row = some r → (q ≤ r ∧ r ≠ q + 5) ∧ ∃ o : Obj, X.heap[r]? = some o ∧ o.isCells = true) : AlikeQ q X Y :=
  ⟨hg.size, fun k hk => hg.block k (by omega) (fun e => by have := (hr k e.symm).1; omega), fun k o ho hc => (hg.block k (Array.getElem?_eq_some_iff.1 ho).1 (fun e => by
    obtain ⟨_, o', h1, h2⟩ := hr k e.symm
    rw [h1] at ho; cases ho; rw [h2] at hc; cases hc)).trans ho⟩
theorem AlikeQ.below {q : Nat} {X Y : World} (hX : q + 6 ≤ X.heap.size) (hb : Below X.heap.size X Y) : AlikeQ q X Y := AlikeQ.grown hX (below_grown hb) (fun r e => by cases e)
theorem AlikeQ.put {q b : Nat} {X : World} {t : TypeId} {cs : Array Value} (hX : q + 6 ≤ X.heap.size) (hl : Lies X b t cs) (h1 : q ≤ b) (h2 : b ≠ q + 5) (i : Nat) (u : Value) : AlikeQ q X (X.setCell ⟨b, i, none⟩ u) :=
  AlikeQ.grown (row := some b) hX ⟨rfl, rfl, rfl, by simp, fun k _ hk => heap_setCell_other X ⟨b, i, none⟩ k u (fun e => hk (by simp [e]))⟩ (fun r e => by cases e; exact ⟨⟨h1, h2⟩, _, hl, rfl⟩)
theorem AlikeQ.far {q b : Nat} {X Y : World} (h : AlikeQ q X Y) : KeepsFar b X Y := ⟨h.size, fun k o _ ho hc => h.books k o ho hc⟩
theorem AlikeQ.at {q : Nat} {X Y : World} (h : AlikeQ q X Y) (hG : 1 < q) (c : Nat) : KeepsAt (KAnd (fun p => p = ⟨q + 5, 0, none⟩ ∨ p = ⟨1, 0, none⟩) c 0) X Y :=
  ⟨h.size, fun p hp => by
    rcases hp with (rfl | rfl) | hp
    · exact World.cell?_of_block (h.low _ (.inr rfl))
    · exact World.cell?_of_block (h.low _ (.inl hG))
    · omega, fun p hp => by
    rcases hp with (rfl | rfl) | hp
    · exact World.frozen?_of_block (h.low _ (.inr rfl))
    · exact World.frozen?_of_block (h.low _ (.inl hG))
    · omega⟩
theorem maxVar_lt {w : World} (h : MaxVar w) : 1 < w.heap.size := by
  obtain ⟨m, hm⟩ := h
  rcases Nat.lt_or_ge 1 w.heap.size with h | h
  · exact h
  · have : w.cell? ⟨1, 0, none⟩ = none := by simp [World.cell?, Array.getElem?_eq_none h]
    rw [this] at hm
    cases hm
/-- an error is written -/
def failW (q : Nat) (n : Int) (er : Int) (X : World) : World := ((((X.setCell ⟨q, 0, none⟩ (.int .i64 0)).setCell ⟨q, 1, none⟩ (.int .i64 0)).setCell ⟨q, 2, none⟩ (.slice none 0 0)).setCell ⟨q + 1, 0, none⟩ (.int .i64 n)).setCell ⟨q + 1 + 1, 0, none⟩ (.int .i64 er)
theorem below_set {q : Nat} {w X : World} (h : Below q w X) {b : Nat} (hb : q ≤ b) (i : Nat) (u : Value) : Below q w (X.setCell ⟨b, i, none⟩ u) := h.setCell (p := ⟨b, i, none⟩) hb u
theorem lies_off {w : World} {g : Nat} {t : TypeId} {cs : Array Value} (h : Lies w g t cs) {b : Nat} (hb : g ≠ b) (i : Nat) (u : Value) : Lies (w.setCell ⟨b, i, none⟩ u) g t cs :=
  (heap_setCell_other w ⟨b, i, none⟩ g u hb).trans h
theorem CSt.fail {w X : World} {q : Nat} {v : Value} {rows : List (List Val)} {cols : Nat} (h : CSt w q v rows cols X) (hX : q + 6 ≤ X.heap.size) (n : Nat) (k er : Int) (hk : k = (n : Int)) (s : Bs) (hr : cRead s = ((0, 0, []), n, er)) (xs : List LX) :
    RdStop w q s .ret xs (failW q k er X) ∧ AlikeQ q X (failW q k er X) := by
  subst hk
  have a0 : Lies (failW q n er X) q 24 #[.int .i64 0, .int .i64 0, .slice none 0 0] :=
    lies_off (lies_off (((h.l0.put 0 (.int .i64 0)).put 1 (.int .i64 0)).put 2 (.slice none 0 0)) (by omega) 0 _) (by omega) 0 _
  have a1 : Lies (failW q n er X) (q + 1) 3 #[.int .i64 (n : Int)] :=
    lies_off ((lies_off (lies_off (lies_off h.l1 (by omega) 0 _) (by omega) 1 _) (by omega) 2 _).put 0 (.int .i64 (n : Int))) (by omega) 0 _
  have a2 : Lies (failW q n er X) (q + 2) 28 #[.int .i64 er] :=
    ((lies_off (lies_off (lies_off (lies_off h.l2 (by omega) 0 _) (by omega) 1 _) (by omega) 2 _) (by omega) 0 _).put 0 (.int .i64 er))
  have b0 : Below q w (failW q n er X) := below_set (below_set (below_set (below_set (below_set h.bel (Nat.le_refl _) 0 _) (Nat.le_refl _) 1 _) (Nat.le_refl _) 2 _) (by omega) 0 _) (by omega) 0 _
  refine ⟨⟨rfl, n, er, a0, a1, a2, b0, hr⟩, ?_⟩
  have s1 := AlikeQ.put hX h.l0 (Nat.le_refl _) (by omega) 0 (.int .i64 0)
  have s2 := AlikeQ.put (X := X.setCell ⟨q, 0, none⟩ (.int .i64 0)) (by simpa using hX) (h.l0.put 0 (.int .i64 0)) (Nat.le_refl _) (by omega) 1 (.int .i64 0)
  have s3 := AlikeQ.put (X := (X.setCell ⟨q, 0, none⟩ (.int .i64 0)).setCell ⟨q, 1, none⟩ (.int .i64 0)) (by simpa using hX) ((h.l0.put 0 (.int .i64 0)).put 1 (.int .i64 0)) (Nat.le_refl _) (by omega) 2 (.slice none 0 0)
  have s4 := AlikeQ.put (X := ((X.setCell ⟨q, 0, none⟩ (.int .i64 0)).setCell ⟨q, 1, none⟩ (.int .i64 0)).setCell ⟨q, 2, none⟩ (.slice none 0 0)) (b := q + 1) (by simpa using hX) (lies_off (lies_off (lies_off h.l1 (by omega) 0 _) (by omega) 1 _) (by omega) 2 _) (by omega) (by omega) 0 (.int .i64 (n : Int))
  have s5 := AlikeQ.put (X := (((X.setCell ⟨q, 0, none⟩ (.int .i64 0)).setCell ⟨q, 1, none⟩ (.int .i64 0)).setCell ⟨q, 2, none⟩ (.slice none 0 0)).setCell ⟨q + 1, 0, none⟩ (.int .i64 (n : Int))) (b := q + 2) (by simpa using hX) (lies_off (lies_off (lies_off (lies_off h.l2 (by omega) 0 _) (by omega) 1 _) (by omega) 2 _) (by omega) 0 _) (by omega) (by omega) 0 (.int .i64 er)
  exact (((s1.trans s2).trans s3).trans s4).trans s5
theorem mem_sum {α : Type} (f : α → Nat) : ∀ (l : List α) (x : α), x ∈ l → f x ≤ (l.map f).sum
  | [], x, h => by simp at h
  | y :: t, x, h => by
    rw [List.map_cons, List.sum_cons]
    rcases List.mem_cons.1 h with rfl | h
    · omega
    · have := mem_sum f t x h
      omega
theorem wSum_len : ∀ ws : List Bs, ws.length ≤ wSum ws ∧ ∀ x ∈ ws, x.length ≤ wSum ws
  | [] => ⟨by simp, by simp⟩
  | y :: t => by
    obtain ⟨h1, h2⟩ := wSum_len t
    have e : wSum (y :: t) = y.length + 1 + wSum t := by unfold wSum; rw [List.map_cons, List.sum_cons]
    refine ⟨by rw [e, List.length_cons]; omega, fun x hx => ?_⟩
    rcases List.mem_cons.1 hx with rfl | hx
    · omega
    · have := h2 x hx
      omega
theorem words_short {s : Bs} {pre : List LX} {x : LX} (hp : (pre ++ [x]).map LX.key <+: cLines s) : x.ws.length ≤ s.length ∧ ∀ y ∈ x.ws, y.length ≤ s.length := by
  have hmem : x.key ∈ cLines s := hp.subset (by simp)
  have h1 := (cLines_sum s.length s (Nat.le_refl _)).1
  have h2 := mem_sum (fun x : List Bs × Int => wSum x.1) _ _ hmem
  obtain ⟨h3, h4⟩ := wSum_len x.ws
  have h5 : wSum x.key.1 = wSum x.ws := rfl
  refine ⟨by omega, fun y hy => ?_⟩
  have := h4 y hy
  omega
theorem words_some {s : Bs} {pre : List LX} {x : LX} (hp : (pre ++ [x]).map LX.key <+: cLines s) (h0 : x.er = 0) : x.ws ≠ [] :=
  (cLines_sum s.length s (Nat.le_refl _)).2 x.key (hp.subset (by simp)) h0
theorem below_of_none {W W' : World} (hg : W.grownBy W' none) : Below W.heap.size W W' := ⟨hg.os, hg.tape, hg.output, hg.size, fun k hk => hg.block k hk (by simp)⟩
/-- a row of values that is being filled -/
def mixB (ws : List Bs) (i : Nat) : List Val := (ws.take i).map (fun w => (vMeant w).1) ++ List.replicate (ws.length - i) ⟨0, 0, 0, [], false, 0⟩
theorem mixB_len (ws : List Bs) (i : Nat) (h : i ≤ ws.length) : (mixB ws i).length = ws.length := by unfold mixB; simp; omega
theorem mixB_zero (ws : List Bs) : mixB ws 0 = List.replicate ws.length ⟨0, 0, 0, [], false, 0⟩ := by unfold mixB; simp
theorem mixB_all (ws : List Bs) : mixB ws ws.length = ws.map (fun w => (vMeant w).1) := by unfold mixB; simp
theorem mixB_step (ws : List Bs) (i : Nat) (h : i < ws.length) : (mixB ws i).set i (vMeant ws[i]).1 = mixB ws (i + 1) := by
  unfold mixB
  have hl : ((ws.take i).map (fun w => (vMeant w).1)).length = i := by simp; omega
  rw [List.set_append_right _ _ (by rw [hl]; exact Nat.le_refl _), hl, Nat.sub_self, List.take_succ_eq_append_getElem h, List.map_append, List.append_assoc]
  congr 1
  obtain ⟨k, hk⟩ : ∃ k, ws.length - i = k + 1 := ⟨ws.length - i - 1, by omega⟩
  rw [hk, List.replicate_succ, List.set_cons_zero, show ws.length - (i + 1) = k by omega]
  rfl
theorem own_form {w : World} {base size n : Nat} {e : TypeId} {v : Value} {xs : List Value} (h : w.ownsRow base e size v n xs) (hn : 0 < n) : ∃ g cap, v = .slice (some ⟨g, 0, none⟩) n cap := by
  rcases h.2 with ⟨_, h0⟩ | ⟨g, cap, cur, e, _⟩
  · omega
  · exact ⟨g, cap, e⟩
theorem CSt.facts {w X : World} {q : Nat} {v : Value} {rows : List (List Val)} {cols : Nat} (hC : CSt w q v rows cols X) :
    X.cell? ⟨q, 0, none⟩ = some (.int .i64 0) ∧ X.cell? ⟨q, 1, none⟩ = some (.int .i64 0) ∧ X.cell? ⟨q, 2, none⟩ = some (.slice none 0 0) ∧ X.cell? ⟨q + 1, 0, none⟩ = some (.int .i64 0) ∧ X.cell? ⟨q + 1 + 1, 0, none⟩ = some (.int .i64 0) ∧ X.cell? ⟨q + 1 + 1 + 1, 0, none⟩ = some v ∧ X.cell? ⟨q + 1 + 1 + 1 + 1, 0, none⟩ = some (.int .i64 (cols : Int)) :=
  ⟨hC.l0.cell 0, hC.l0.cell 1, hC.l0.cell 2, hC.l1.cell 0, hC.l2.cell 0, hC.l3.cell 0, hC.l4.cell 0⟩
theorem CSt.froz {w X : World} {q : Nat} {v : Value} {rows : List (List Val)} {cols : Nat} (hC : CSt w q v rows cols X) :
    X.frozen? ⟨q, 0, none⟩ = false ∧ X.frozen? ⟨q, 1, none⟩ = false ∧ X.frozen? ⟨q, 2, none⟩ = false ∧ X.frozen? ⟨q + 1, 0, none⟩ = false ∧ X.frozen? ⟨q + 1 + 1, 0, none⟩ = false ∧ X.frozen? ⟨q + 1 + 1 + 1, 0, none⟩ = false ∧ X.frozen? ⟨q + 1 + 1 + 1 + 1, 0, none⟩ = false :=
  ⟨hC.l0.frozen 0, hC.l0.frozen 1, hC.l0.frozen 2, hC.l1.frozen 0, hC.l2.frozen 0, hC.l3.frozen 0, hC.l4.frozen 0⟩
theorem CSt.lt {w X : World} {q : Nat} {v : Value} {rows : List (List Val)} {cols : Nat} (hC : CSt w q v rows cols X) : q + 1 + 1 + 1 + 1 < X.heap.size := hC.l4.lt
/-- csv.Read's cells behind an append to the rows -/
theorem CSt.grow {w X Y : World} {q : Nat} {v : Value} {rows : List (List Val)} {cols : Nat} (h : CSt w q v rows cols X) (hq : q = w.heap.size) (hX : q + 6 ≤ X.heap.size) (o : Obj) (hg : (X.alloc o).grownBy Y v.ownBlock) :
    Lies Y q 24 #[.int .i64 0, .int .i64 0, .slice none 0 0] ∧ Lies Y (q + 1) 3 #[.int .i64 0] ∧ Lies Y (q + 2) 28 #[.int .i64 0] ∧ Lies Y (q + 3) 52 #[v] ∧ Lies Y (q + 4) 3 #[.int .i64 (cols : Int)] ∧ Below q w Y ∧ AlikeQ q X Y := by
  obtain ⟨us, h1, h2, h3⟩ := h.rows
  have hge : ∀ k, v.ownBlock = some k → q + 6 ≤ k ∧ ∃ c fz, X.heap[k]? = some (.cells c 22 fz) := fun k hk => by
    refine ⟨(h2.lt k hk).1, ?_⟩
    rcases h2.2 with ⟨rfl, _⟩ | ⟨g, cap, cur, rfl, _, hb, _⟩
    · simp [Value.ownBlock] at hk
    · simp [Value.ownBlock] at hk
      subst hk
      exact ⟨_, _, hb⟩
  have ne : ∀ k, k < q + 6 → some k ≠ v.ownBlock := fun k hk e => by have := (hge k e.symm).1; omega
  refine ⟨(h.l0.alloc o).grown hg (ne _ (by omega)), (h.l1.alloc o).grown hg (ne _ (by omega)), (h.l2.alloc o).grown hg (ne _ (by omega)), (h.l3.alloc o).grown hg (ne _ (by omega)), (h.l4.alloc o).grown hg (ne _ (by omega)), ?_, ?_⟩
  · exact (h.bel.alloc (by omega) o).grown hg (by rw [World.size_alloc]; omega) (fun k hk => by have := (hge k hk).1; omega)
  · refine (AlikeQ.below hX ((Below.refl _ X).alloc (Nat.le_refl _) o)).trans (AlikeQ.grown (by rw [World.size_alloc]; omega) hg (fun r e => ?_))
    obtain ⟨k1, c, fz, k2⟩ := hge r e
    have hlt := (h2.lt r e).2
    refine ⟨⟨by omega, by omega⟩, .cells c 22 fz, ?_, rfl⟩
    exact (Below.heap_alloc X o r hlt).trans k2
/-- csv.Read's cells behind a row -/
theorem CSt.pushed {w X Y : World} {q : Nat} {v v' u : Value} {rows : List (List Val)} {r : List Val} {cols c2 : Nat} (h : CSt w q v rows cols X) (hq : q = w.heap.size) (hX : q + 6 ≤ X.heap.size) (o : Obj) (hg : (X.alloc o).grownBy Y v.ownBlock)
    (us : List Value) (h1 : us.length = rows.length) (h2 : X.ownsRow (q + 6) 22 1 v rows.length us) (h3 : ∀ (i : Nat) u r, us[i]? = some u → rows[i]? = some r → VOwn X (q + 6) u r) (hu : VOwn X (q + 6) u r)
    (ho : Y.ownsRow (q + 6) 22 1 v' (rows.length + 1) (us ++ [u])) :
    CSt w q v' (rows ++ [r]) c2 ((Y.setCell ⟨q + 1 + 1 + 1, 0, none⟩ v').setCell ⟨q + 1 + 1 + 1 + 1, 0, none⟩ (.int .i64 (c2 : Int))) ∧ AlikeQ q X ((Y.setCell ⟨q + 1 + 1 + 1, 0, none⟩ v').setCell ⟨q + 1 + 1 + 1 + 1, 0, none⟩ (.int .i64 (c2 : Int))) := by
  obtain ⟨l0, l1, l2, l3, l4, hb, ha⟩ := h.grow hq hX o hg
  have hr := VRowsAt.push h1 h2 h3 hu ((Below.refl _ X).alloc (Nat.le_refl _) o) ho hg
  have hY : q + 6 ≤ Y.heap.size := Nat.le_trans hX ha.size
  refine ⟨⟨lies_off (lies_off l0 (by omega) 0 _) (by omega) 0 _, lies_off (lies_off l1 (by omega) 0 _) (by omega) 0 _, lies_off (lies_off l2 (by omega) 0 _) (by omega) 0 _,
    lies_off (l3.put 0 v') (by omega) 0 _, (lies_off l4 (by omega) 0 v').put 0 _, (hr.set (a := ⟨q + 1 + 1 + 1, 0, none⟩) (by show q + 1 + 1 + 1 < _; omega) _).set (a := ⟨q + 1 + 1 + 1 + 1, 0, none⟩) (by show q + 1 + 1 + 1 + 1 < _; omega) _, below_set (below_set hb (by omega) 0 _) (by omega) 0 _⟩, ?_⟩
  exact (ha.trans (AlikeQ.put hY l3 (by omega) (by omega) 0 v')).trans (AlikeQ.put (by simpa using hY) (lies_off l4 (by omega) 0 v') (by omega) (by omega) 0 _)
theorem make_vals (P : Nat) (hP : P ≤ 1000000) : ∃ cs : Array Value, cs.toList = vcells (List.replicate P ⟨0, 0, 0, [], false, 0⟩) ∧ ∀ W : World, (Instr.makeSlice 22 (.int .i64 (P : Int)) (.int .i64 (P : Int))).run Tryz.prog W = .ok (.slice (some ⟨W.heap.size, 0, none⟩) P P) (W.alloc (.cells cs 38)) := by
  obtain ⟨i1, gi, gz0, gz1, gz2⟩ := info_parts infoVal
  refine ⟨_, vcells_blanks P, fun W => ?_⟩
  have h := run_make (P := Tryz.prog) W 22 38 i1 _ Tryz.underlying22 gi gz0 .i64 .i64 (P : Int) (P : Int) (by omega) (Int.le_refl _) (by rw [gz2]; omega) (by omega)
  rw [gz1] at h
  simpa using h
/-- the array that is being filled: so many of its rows stand there -/
def fillA (rows : List (List Val)) (cols i : Nat) : List Val := padAll (rows.take i) cols ++ List.replicate (rows.length * cols - i * cols) ⟨0, 0, 0, [], false, 0⟩
theorem fillA_zero (rows : List (List Val)) (cols : Nat) : fillA rows cols 0 = List.replicate (rows.length * cols) ⟨0, 0, 0, [], false, 0⟩ := by unfold fillA; simp [padAll]
theorem fillA_all (rows : List (List Val)) (cols : Nat) : fillA rows cols rows.length = padAll rows cols := by unfold fillA; simp
theorem fillA_len (rows : List (List Val)) (cols i : Nat) (h : ∀ l ∈ rows, l.length ≤ cols) (hi : i ≤ rows.length) : (fillA rows cols i).length = rows.length * cols := by
  have := Nat.mul_le_mul_right cols hi
  unfold fillA
  rw [List.length_append, padAll_len cols _ (fun l hl => h l (List.mem_of_mem_take hl)), List.length_take, List.length_replicate, Nat.min_eq_left hi]
  omega
theorem padAll_snoc (rows : List (List Val)) (l : List Val) (cols : Nat) : padAll (rows ++ [l]) cols = padAll rows cols ++ (l ++ List.replicate (cols - l.length) ⟨0, 0, 0, [], false, 0⟩) := by unfold padAll; rw [List.flatMap_append, List.flatMap_singleton]
/-- a row laid over the blanks -/
theorem fillA_step (rows : List (List Val)) (cols i : Nat) (h : ∀ l ∈ rows, l.length ≤ cols) (hi : i < rows.length) :
    (vcells (fillA rows cols i)).take (i * cols * 6) ++ vcells rows[i] ++ (vcells (fillA rows cols i)).drop (i * cols * 6 + (vcells rows[i]).length) = vcells (fillA rows cols (i + 1)) := by
  have hl := h rows[i] (List.getElem_mem hi)
  have hp : (padAll (rows.take i) cols).length = i * cols := by rw [padAll_len cols _ (fun l hl => h l (List.mem_of_mem_take hl)), List.length_take, Nat.min_eq_left (by omega)]
  have hc : (vcells (padAll (rows.take i) cols)).length = i * cols * 6 := by rw [vcells_len, hp]
  have hm : (i + 1) * cols ≤ rows.length * cols := Nat.mul_le_mul_right cols hi
  rw [Nat.add_mul, Nat.one_mul] at hm
  unfold fillA
  rw [vcells_app, List.take_left' hc, List.drop_append, hc, List.drop_of_length_le (by rw [hc]; omega), List.nil_append, List.take_succ_eq_append_getElem hi, padAll_snoc, vcells_app, vcells_app, vcells_app, vcells_len, show i * cols * 6 + rows[i].length * 6 - i * cols * 6 = rows[i].length * 6 by omega, List.append_assoc, List.append_assoc, List.append_assoc]
  congr 2
  obtain ⟨d, hd⟩ : ∃ d, cols - rows[i].length = d := ⟨_, rfl⟩
  obtain ⟨e, he⟩ : ∃ e, rows.length * cols - (i + 1) * cols = e := ⟨_, rfl⟩
  have hs : rows.length * cols - i * cols = rows[i].length + (d + e) := by rw [Nat.add_mul, Nat.one_mul] at he; omega
  rw [he, hd, hs, ← List.replicate_append_replicate, vcells_app, List.drop_left' (by rw [vcells_len, List.length_replicate]), ← List.replicate_append_replicate, vcells_app]
theorem wpList_copy_rows {P : Program} (w : World) {ops : Array Oper} {rest : List Oper} {o : Oper} {a : Act} {Q : Exit → Act → World → Prop} (hgd : o.guard = none) (d s : Operand) (dT sT : TypeId)
    (hop : o.op = .call { callee := .builtin .copy, args := #[d, s], argTypes := #[dT, sT] }) (elem : TypeId) (size : Nat) (hu : P.underlying dT = some (.slice elem)) (hsz : (P.info? elem).map (·.size) = some size)
    (g off dLen dCap : Nat) (ad : Addr) (sLen sCap : Nat) (hd : a.eval d = .slice (some ⟨g, off, none⟩) dLen dCap) (hs : a.eval s = .slice (some ad) sLen sCap)
    (cur : Array Value) (t : TypeId) (hg : w.heap[g]? = some (.cells cur t (0, 0))) (cs : List Value) (k : Nat) (hk : Nat.min sLen dLen = k) (hn : cs.length = k * size)
    (hsrc : ∀ j v, cs[j]? = some v → w.cell? (ad.add j) = some v) (hfit : off + cs.length ≤ cur.size) (h1 : ∀ v ∈ cs, v.oneCell' = true)
    (h : ∀ W, Hid (W = w.setRow g (cur.toList.take off ++ cs ++ cur.toList.drop (off + cs.length)).toArray) → wpList P ops Q rest (a.put o.dst (goInt k)) W) :
    wpList P ops Q (o :: rest) a w := by
  refine wpList_plain hgd fun K hK' => ?_
  have hrun := run_copy_rows (P := P) w dT sT o.type elem size g off dLen dCap ad sLen sCap cur t cs k hu hsz hg hk hn hsrc hfit h1
  unfold Oper.wp
  simp [execOp, hop, resolve, invoke, builtin, hd, hs, hrun, Result.andThen]
  exact hK' _ _ (by simpa using h _ (Lib.hid rfl))
abbrev slotsR : List Nat := [73, 74, 75, 76, 77, 78, 79, 80, 81, 15]
def tabR (v3 : Value) (n c P : Nat) : List (Nat × Nat × Value) := [(0, 73, v3), (1, 74, .int .i64 (n : Int)), (2, 75, .int .i64 (c : Int)), (3, 76, v3), (4, 77, .int .i64 (n : Int)), (5, 78, .int .i64 (c : Int)), (6, 79, .int .i64 (P : Int))]
theorem tabR_eq {v3 : Value} {n c P : Nat} {Z : Nat × Nat × Value → Prop} (h : Z (0, 73, v3) ∧ Z (1, 74, .int .i64 (n : Int)) ∧ Z (2, 75, .int .i64 (c : Int)) ∧ Z (3, 76, v3) ∧ Z (4, 77, .int .i64 (n : Int)) ∧ Z (5, 78, .int .i64 (c : Int)) ∧ Z (6, 79, .int .i64 (P : Int))) : ∀ e ∈ tabR v3 n c P, Z e := by
  intro e he
  simp only [tabR, List.mem_cons, List.not_mem_nil, or_false] at he
  obtain ⟨h0, h1, h2, h3, h4, h5, h6⟩ := h
  rcases he with rfl | rfl | rfl | rfl | rfl | rfl | rfl <;> assumption
structure RI (X : World) (v3 : Value) (n c P : Nat) (cs : Array Value) (a0 : Act) (listed : Array Bool) (a : Act) (w : World) : Prop where
  off : Off slotsR a0 a
  pt : PT (tabR v3 n c P) listed a
  bel : Below X.heap.size X w
  md : Up listed 7 → ∃ g, a.eval (.tmp 80) = .slice (some ⟨g, 0, none⟩) P P ∧ X.heap.size ≤ g ∧ Lies w g 38 cs
  bd : Up listed 8 → Up listed 7 ∧ a.eval (.tmp 81) = .agg #[.int .i64 (n : Int), .int .i64 (c : Int), a.eval (.tmp 80)]
  al : Up listed 9 → ∃ bx, a.eval (.tmp 15) = .pointer (some ⟨bx, 0, none⟩) ∧ X.heap.size ≤ bx ∧ (¬ Up listed 10 → Lies w bx 24 #[.int .i64 0, .int .i64 0, .slice none 0 0]) ∧ (Up listed 10 → Lies w bx 24 #[.int .i64 (n : Int), .int .i64 (c : Int), a.eval (.tmp 80)])
  st : Up listed 10 → Up listed 9 ∧ Up listed 7
theorem RI.start {X : World} {v3 : Value} {n c P : Nat} {cs : Array Value} (a : Act) (m : Nat) (w : World) (hb : Below X.heap.size X w) : RI X v3 n c P cs a (Array.replicate m false) a w :=
  ⟨Off.refl _ _, PT.start _ _ _, hb, fun h => absurd h (Up.none _ _), fun h => absurd h (Up.none _ _), fun h => absurd h (Up.none _ _), fun h => absurd h (Up.none _ _)⟩
section
variable {X w : World} {v3 : Value} {n c P : Nat} {cs : Array Value} {a0 a : Act} {listed : Array Bool} {ops : Array Oper} {Q : Exit → Act → World → Prop} {o : Oper}
theorem ri_pure {i s : Nat} (v : Value) (hI : RI X v3 n c P cs a0 listed a w) (hun : listed.getD i true = false) (ho : ops[i]? = some o) (hg : o.guard = none) (hd : o.dst = some s) (hs : s < a0.tmps.size) (hi7 : i < 7) (hs80 : s < 80) (hs15 : s ≠ 15) (hsS : s ∈ slotsR)
    (h1 : ∀ e ∈ tabR v3 n c P, e.2.1 = s → e.2.2 = v) (h2 : ∀ e ∈ tabR v3 n c P, e.1 = i → e.2.1 = s) (hr : (execOp a.eval o).run Tryz.prog w = .ok (.value v) w) : wpOp Tryz.prog ops Q i (RI X v3 n c P cs a0 (listed.setIfInBounds i true)) a w := by
  have hi := Up.of_false hun
  have k80 : (a.put (some s) v).eval (.tmp 80) = a.eval (.tmp 80) := eval_put_ne _ _ (by omega)
  refine wpOp_plain ho hg (wpOpr_val v hr ?_)
  rw [hd]
  refine ⟨hI.off.put hsS v, hI.pt.step hi (by rw [hI.off.size]; exact hs) h1 h2, hI.bel, fun h => ?_, fun h => ?_, fun h => ?_, fun h => ?_⟩
  · rw [k80]; exact hI.md (up_old hi h (by omega))
  · rw [k80, eval_put_ne _ _ (by omega)]
    exact ⟨up_new hi (hI.bd (up_old hi h (by omega))).1, (hI.bd (up_old hi h (by omega))).2⟩
  · obtain ⟨bx, b1, b2, b3, b4⟩ := hI.al (up_old hi h (by omega))
    rw [k80, eval_put_ne _ _ hs15]
    exact ⟨bx, b1, b2, fun h' => b3 (fun e => h' (up_new hi e)), fun h' => b4 (up_old hi h' (by omega))⟩
  · obtain ⟨b1, b2⟩ := hI.st (up_old hi h (by omega))
    exact ⟨up_new hi b1, up_new hi b2⟩
theorem ri_make (hI : RI X v3 n c P cs a0 listed a w) (hun : listed.getD 7 true = false) (ho : ops[7]? = some o) (hg : o.guard = none) (hd : o.dst = some 80) (hs : 81 < a0.tmps.size)
    (hr : ∀ W : World, (execOp a.eval o).run Tryz.prog W = .ok (.value (.slice (some ⟨W.heap.size, 0, none⟩) P P)) (W.alloc (.cells cs 38))) : wpOp Tryz.prog ops Q 7 (RI X v3 n c P cs a0 (listed.setIfInBounds 7 true)) a w := by
  have hi := Up.of_false hun
  have h7 := not_upO hun
  refine wpOp_plain ho hg (wpOpr_val _ (hr w) ?_)
  rw [hd]
  have hw : Below w.heap.size w (w.alloc (.cells cs 38)) := (Below.refl _ w).alloc (Nat.le_refl _) _
  have k80 : (a.put (some 80) (.slice (some ⟨w.heap.size, 0, none⟩) P P)).eval (.tmp 80) = .slice (some ⟨w.heap.size, 0, none⟩) P P := eval_put_eq _ _ (by rw [hI.off.size]; omega)
  refine ⟨hI.off.put (by decide) _, ?_, hI.bel.trans (hw.mono hI.bel.size), fun _ => ?_, fun h => ?_, fun h => ?_, fun h => ?_⟩
  · exact hI.pt.step hi (by rw [hI.off.size]; omega) (fun e he hes => by simp only [tabR, List.mem_cons, List.not_mem_nil, or_false] at he; rcases he with rfl | rfl | rfl | rfl | rfl | rfl | rfl <;> simp at hes) (fun e he hes => by simp only [tabR, List.mem_cons, List.not_mem_nil, or_false] at he; rcases he with rfl | rfl | rfl | rfl | rfl | rfl | rfl <;> simp at hes)
  · exact ⟨w.heap.size, k80, hI.bel.size, Lies.new w _ _⟩
  · exact absurd (hI.bd (up_old hi h (by decide))).1 h7
  · obtain ⟨bx, b1, b2, b3, b4⟩ := hI.al (up_old hi h (by decide))
    refine ⟨bx, by rw [eval_put_ne _ _ (by decide)]; exact b1, b2, fun h' => (b3 (fun e => h' (up_new hi e))).next hw, fun h' => absurd (hI.st (up_old hi h' (by decide))).2 h7⟩
  · exact absurd (hI.st (up_old hi h (by decide))).2 h7
theorem ri_build (hI : RI X v3 n c P cs a0 listed a w) (hun : listed.getD 8 true = false) (ho : ops[8]? = some o) (hg : o.guard = none) (hd : o.dst = some 81) (hs : 81 < a0.tmps.size) (h7 : Up listed 7)
    (hr : (execOp a.eval o).run Tryz.prog w = .ok (.value (.agg #[.int .i64 (n : Int), .int .i64 (c : Int), a.eval (.tmp 80)])) w) : wpOp Tryz.prog ops Q 8 (RI X v3 n c P cs a0 (listed.setIfInBounds 8 true)) a w := by
  have hi := Up.of_false hun
  refine wpOp_plain ho hg (wpOpr_val _ hr ?_)
  rw [hd]
  refine ⟨hI.off.put (by decide) _, ?_, hI.bel, fun h => ?_, fun _ => ?_, fun h => ?_, fun h => ?_⟩
  · exact hI.pt.step hi (by rw [hI.off.size]; omega) (fun e he hes => by simp only [tabR, List.mem_cons, List.not_mem_nil, or_false] at he; rcases he with rfl | rfl | rfl | rfl | rfl | rfl | rfl <;> simp at hes) (fun e he hes => by simp only [tabR, List.mem_cons, List.not_mem_nil, or_false] at he; rcases he with rfl | rfl | rfl | rfl | rfl | rfl | rfl <;> simp at hes)
  · rw [eval_put_ne _ _ (by decide)]; exact hI.md (up_old hi h (by decide))
  · rw [eval_put_eq _ _ (by rw [hI.off.size]; omega), eval_put_ne (t := 81) (s := 80) _ _ (by decide)]; exact ⟨up_new hi h7, rfl⟩
  · obtain ⟨bx, b1, b2, b3, b4⟩ := hI.al (up_old hi h (by decide))
    rw [eval_put_ne _ _ (by decide), eval_put_ne _ _ (by decide)]
    exact ⟨bx, b1, b2, fun h' => b3 (fun e => h' (up_new hi e)), fun h' => b4 (up_old hi h' (by decide))⟩
  · obtain ⟨b1, b2⟩ := hI.st (up_old hi h (by decide))
    exact ⟨up_new hi b1, up_new hi b2⟩
theorem ri_alloc (hI : RI X v3 n c P cs a0 listed a w) (hun : listed.getD 9 true = false) (ho : ops[9]? = some o) (hg : o.guard = none) (hd : o.dst = some 15) (hs : 81 < a0.tmps.size)
    (hr : ∀ W : World, (execOp a.eval o).run Tryz.prog W = .ok (.value (.pointer (some ⟨W.heap.size, 0, none⟩))) (W.alloc (.cells #[.int .i64 0, .int .i64 0, .slice none 0 0] 24))) : wpOp Tryz.prog ops Q 9 (RI X v3 n c P cs a0 (listed.setIfInBounds 9 true)) a w := by
  have hi := Up.of_false hun
  have h9 := not_upO hun
  refine wpOp_plain ho hg (wpOpr_val _ (hr w) ?_)
  rw [hd]
  have hw : Below w.heap.size w (w.alloc (.cells #[.int .i64 0, .int .i64 0, .slice none 0 0] 24)) := (Below.refl _ w).alloc (Nat.le_refl _) _
  refine ⟨hI.off.put (by decide) _, ?_, hI.bel.trans (hw.mono hI.bel.size), fun h => ?_, fun h => ?_, fun _ => ?_, fun h => ?_⟩
  · exact hI.pt.step hi (by rw [hI.off.size]; omega) (fun e he hes => by simp only [tabR, List.mem_cons, List.not_mem_nil, or_false] at he; rcases he with rfl | rfl | rfl | rfl | rfl | rfl | rfl <;> simp at hes) (fun e he hes => by simp only [tabR, List.mem_cons, List.not_mem_nil, or_false] at he; rcases he with rfl | rfl | rfl | rfl | rfl | rfl | rfl <;> simp at hes)
  · obtain ⟨g, g1, g2, g3⟩ := hI.md (up_old hi h (by decide))
    exact ⟨g, by rw [eval_put_ne _ _ (by decide)]; exact g1, g2, g3.next hw⟩
  · obtain ⟨b1, b2⟩ := hI.bd (up_old hi h (by decide))
    rw [eval_put_ne _ _ (by decide), eval_put_ne _ _ (by decide)]
    exact ⟨up_new hi b1, b2⟩
  · exact ⟨w.heap.size, eval_put_eq _ _ (by rw [hI.off.size]; omega), hI.bel.size, fun _ => Lies.new w _ _, fun h' => absurd (hI.st (up_old hi h' (by decide))).1 h9⟩
  · exact absurd (hI.st (up_old hi h (by decide))).1 h9
theorem ri_store (hI : RI X v3 n c P cs a0 listed a w) (hun : listed.getD 10 true = false) (ho : ops[10]? = some o) (hg : o.guard = none) (hd : o.dst = none) (h8 : Up listed 8) (h9 : Up listed 9)
    (hr : ∀ (bx : Nat), a.eval (.tmp 15) = .pointer (some ⟨bx, 0, none⟩) → Lies w bx 24 #[.int .i64 0, .int .i64 0, .slice none 0 0] → a.eval (.tmp 81) = .agg #[.int .i64 (n : Int), .int .i64 (c : Int), a.eval (.tmp 80)] → (∃ g, a.eval (.tmp 80) = .slice (some ⟨g, 0, none⟩) P P) →
      (execOp a.eval o).run Tryz.prog w = .ok .skip (((w.setCell ⟨bx, 0, none⟩ (.int .i64 (n : Int))).setCell ⟨bx, 1, none⟩ (.int .i64 (c : Int))).setCell ⟨bx, 2, none⟩ (a.eval (.tmp 80)))) : wpOp Tryz.prog ops Q 10 (RI X v3 n c P cs a0 (listed.setIfInBounds 10 true)) a w := by
  have hi := Up.of_false hun
  have h10 := not_upO hun
  obtain ⟨bx, b1, b2, b3, _⟩ := hI.al h9
  obtain ⟨h7, d1⟩ := hI.bd h8
  obtain ⟨g, g1, g2, g3⟩ := hI.md h7
  have hl := b3 h10
  refine wpOp_plain ho hg (wpOpr_skip (hr bx b1 hl d1 ⟨g, g1⟩) ?_)
  rw [hd]
  show RI X v3 n c P cs a0 _ a _
  have hne : g ≠ bx := fun e => by
    subst e
    unfold Lies at g3 hl
    rw [g3] at hl
    injection hl with hl
    injection hl with _ hl _
    exact absurd hl (by decide)
  have l3 := ((hl.put 0 (.int .i64 (n : Int))).put 1 (.int .i64 (c : Int))).put 2 (a.eval (.tmp 80))
  refine ⟨hI.off, hI.pt.skip hi (fun e he hes => by simp only [tabR, List.mem_cons, List.not_mem_nil, or_false] at he; rcases he with rfl | rfl | rfl | rfl | rfl | rfl | rfl <;> simp at hes), below_set (below_set (below_set hI.bel b2 0 _) b2 1 _) b2 2 _, fun _ => ⟨g, g1, g2, lies_off (lies_off (lies_off g3 hne 0 _) hne 1 _) hne 2 _⟩, fun _ => ⟨up_new hi h7, d1⟩, fun _ => ⟨bx, b1, b2, fun h' => absurd (up_self hi) h', fun _ => l3⟩, fun _ => ⟨up_new hi h9, up_new hi h7⟩⟩
end
end Go.Proofs.YteccjdclkcipbaaGreatDoor
