/-
  ftext: valueAt of an array of one value, text; through; a map of known entries; the table.
-/
import Derived.Test.YtpdaloohgfnbhaaGreatDoorCsv9
import Derived.WideMake
import Derived.Carry
namespace Go.Proofs.YtpdaloohgfnbhaaGreatDoor
open Go.RowKit

set_option maxRecDepth 100000 in
set_option maxHeartbeats 3200000 in
theorem valueAt_one (A : Option Addr) (cap : Nat) (v : Val) (w : World) (hv : VSl w A [v]) :
    Calls Tryz.prog 87 #[.agg #[.int .i64 1, .int .i64 1, .slice A 1 cap], .int .i64 0, .int .i64 0] w fun e w' => e = .returned (.tuple #[valV v, .bool true]) ∧ Below w.heap.size w w' := by
  obtain ⟨b, off, rfl, hr⟩ := hv (by simp)
  obtain ⟨y0, y1, y2, y3, y4, y5⟩ := hr.2 0 (by simp)
  simp only [List.getElem_cons_zero, Nat.zero_mul, Nat.add_zero] at y0 y1 y2 y3 y4 y5
  have hb := hr.1
  obtain ⟨k, m, e, t, tr, f⟩ := v
  dsimp only at y0 y1 y2 y3 y4 y5
  go_enter Tryz.func87, Tryz.ntmps87
  go_wp2_with fail
  refine bodyPost_ret (v := .tuple #[.agg #[.int .i64 k, .int .i64 m, .int .i64 e, .string ⟨t.toArray⟩, .bool tr, .int .i64 f], .bool true]) (by simp [results, Tryz.results87, go_sem]) rfl ?_
  exact ⟨rfl, ((Below.refl _ w).alloc (Nat.le_refl _) _).alloc (by rw [World.size_alloc]; omega) _⟩
/-- what was asked of a value: a text, a whole number, a number -/
def itemV (t : Bs) (n : Int) (m e : Int) : Value := .agg #[.string ⟨t.toArray⟩, .int .i64 n, .int .i64 m, .int .i64 e]
set_option maxRecDepth 100000 in
set_option maxHeartbeats 3200000 in
theorem ftext_text (v : Val) (w : World) (hP : PowTab w) (h1 : -9223372036854775808 ≤ v.mant) (h2 : v.mant ≤ 9223372036854775807) (hR : v.kind = 1 → pRight v.mant v.exp = true) :
    Calls Tryz.prog 31 #[valV v] w fun e w' => e = .returned (.tuple #[itemV (vToText v).1 0 0 0, .int .i64 (vToText v).2]) ∧ Below w.heap.size w w' := by
  obtain ⟨W0, hW0⟩ : ∃ W0, W0 = (w.alloc (.cells (valC v) 35)).alloc (.cells #[.string ⟨#[]⟩, .int .i64 0, .int .i64 0, .int .i64 0] 84) := ⟨_, rfl⟩
  have HB0 : Hid (Below w.heap.size w W0) := Lib.hid (by rw [hW0]; exact ((Below.refl _ w).alloc (Nat.le_refl _) _).alloc (by rw [World.size_alloc]; omega) _)
  have CT := Lib.hid (toText_any v W0 (hP.next HB0.out) h1 h2 hR)
  have HL : Hid (Lies W0 w.heap.size 35 (valC v)) := Lib.hid (by rw [hW0]; exact (Lies.new w _ _).alloc _)
  have HI : Hid (Lies W0 (w.heap.size + 1) 84 #[.string ⟨#[]⟩, .int .i64 0, .int .i64 0, .int .i64 0]) := Lib.hid (by
    rw [hW0]
    have h := Lies.new (w.alloc (.cells (valC v) 35)) 84 #[.string ⟨#[]⟩, .int .i64 0, .int .i64 0, .int .i64 0]
    rw [World.size_alloc] at h
    exact h)
  have HW := Lib.hid hW0
  generalize vToText v = R at *
  obtain ⟨tx, fa⟩ := R
  obtain ⟨k, m, e, t, tr, f⟩ := v
  simp only [valV, valC] at CT HL HW
  have x0 := HL.out.cell 0
  have x1 := HL.out.cell 1
  have x2 := HL.out.cell 2
  have x3 := HL.out.cell 3
  have x4 := HL.out.cell 4
  have x5 := HL.out.cell 5
  simp only [List.getElem?_toArray, List.getElem?_cons_zero, List.getElem?_cons_succ] at x0 x1 x2 x3 x4 x5
  clear hW0 h1 h2 hR hP
  go_enter Tryz.func31, Tryz.ntmps31
  go_wp2_with fail
  rw [← HW.out]
  refine CT.out.mono ?_
  rintro e w1 ⟨rfl, hb⟩
  have HB1 := Lib.hid (HB0.out.trans (hb.mono HB0.out.size))
  have HI1 := HI.out.next hb
  have y0 := HI1.cell 0
  have y1 := HI1.cell 1
  have y2 := HI1.cell 2
  have y3 := HI1.cell 3
  have f0 := HI1.frozen 0
  have f1 := HI1.frozen 1
  have f2 := HI1.frozen 2
  have f3 := HI1.frozen 3
  simp only [List.getElem?_toArray, List.getElem?_cons_zero, List.getElem?_cons_succ] at y0 y1 y2 y3
  clear hb CT HI HI1 x0 x1 x2 x3 x4 x5 HL
  go_wp2_with fail
  refine bodyPost_ret (v := .tuple #[.agg #[.string ⟨tx.toArray⟩, .int .i64 0, .int .i64 0, .int .i64 0], .int .i64 fa]) (by simp [results, Tryz.results31, go_sem, y0, y1, y2, y3]) rfl ?_
  refine ⟨rfl, ?_⟩
  exact (((HB1.out.setCell (p := ⟨_, _, none⟩) (Nat.le_succ _) _).setCell (p := ⟨_, _, none⟩) (Nat.le_succ _) _).setCell (p := ⟨_, _, none⟩) (Nat.le_succ _) _).setCell (p := ⟨_, _, none⟩) (Nat.le_succ _) _
set_option maxRecDepth 100000 in
theorem through_any (f : Nat) (A : Option Addr) (n c : Nat) (w : World) :
    Calls Tryz.prog 29 #[.func (.func f) #[] #[], .slice A n c] w fun e w' => e = .returned (.func (.func 60) #[] #[.pointer (some ⟨w.heap.size, 0, none⟩), .pointer (some ⟨w.heap.size + 1, 0, none⟩)]) ∧ w' = (w.alloc (.cells #[.func (.func f) #[] #[]] 67)).alloc (.cells #[.slice A n c] 80) := by
  go_enter Tryz.func29, Tryz.ntmps29
  go_wp2_with fail
  go_ret
  exact ⟨rfl, rfl⟩
theorem run_put_new {P : Program} {w : World} (mty kt et : TypeId) (r clock : Nat) (es : Array MapEntry) (s : ByteArray) (val : Value) (hm : P.underlying mty = some (.map kt et)) (hk : P.underlying kt = some .string) (hb : w.heap[r]? = some (.map es clock)) (hf : Instr.findNow .string (.string s) es.toList 0 = some none) :
    (Instr.mapUpdate mty (.map (some r)) (.string s) val).run P w = .ok () { w with heap := w.heap.setIfInBounds r (.map (es.push { key := .string s, val := val, born := clock }) (clock + 1)) } := by
  have hc : (Instr.checkKey false 10000 kt (.string s)).run P w = .ok () w := MapKept.run_checkKey (k := .string s) hk (by simp [MapKept.IsKey]) false 9999
  simp [Instr.mapUpdate, run_underlying hm, MapKept.run_getObj_map hb, hc, MapKept.run_findKey hk hf, MapKept.run_setObj_map _ hb, Result.andThen]
theorem run_look_known {P : Program} {w : World} (mty kt et : TypeId) (r clock : Nat) (es : Array MapEntry) (s : ByteArray) (i : Nat) (v : Value) (hm : P.underlying mty = some (.map kt et)) (hk : P.underlying kt = some .string) (hb : w.heap[r]? = some (.map es clock)) (hf : Instr.findNow .string (.string s) es.toList 0 = some (some (i, v))) :
    (Instr.lookup mty (.map (some r)) (.string s) true).run P w = .ok (.tuple #[v, .bool true]) w := by
  have hc : (Instr.checkKey es.isEmpty 10000 kt (.string s)).run P w = .ok () w := MapKept.run_checkKey (k := .string s) hk (by simp [MapKept.IsKey]) _ 9999
  simp [Instr.lookup, run_underlying hm, MapKept.run_getObj_map hb, hc, MapKept.run_findKey hk hf, Result.andThen]
theorem uTab : Tryz.prog.underlying 51 = some (.map 9 49) := by kernel_rfl
/-- an entry of the table: its name, how many arguments, the function, what is asked of each argument -/
structure Ent where
  name : Bs
  least : Int
  most : Int
  f : Nat
  asks : List Nat
def ents12 : List Ent := [
  ⟨[76, 69, 78], 1, 1, 30, [31]⟩,
  ⟨[76, 69, 70, 84], 1, 2, 32, [31, 33]⟩,
  ⟨[82, 73, 71, 72, 84], 1, 2, 34, [31, 33]⟩,
  ⟨[77, 73, 68], 3, 3, 35, [31, 33, 33]⟩,
  ⟨[85, 80, 80, 69, 82], 1, 1, 36, [31]⟩,
  ⟨[76, 79, 87, 69, 82], 1, 1, 37, [31]⟩,
  ⟨[84, 82, 73, 77], 1, 1, 38, [31]⟩,
  ⟨[70, 73, 78, 68], 2, 3, 39, [31, 31, 33]⟩,
  ⟨[83, 85, 66, 83, 84, 73, 84, 85, 84, 69], 3, 4, 40, [31, 31, 31, 33]⟩,
  ⟨[82, 69, 80, 84], 2, 2, 41, [31, 33]⟩,
  ⟨[69, 88, 65, 67, 84], 2, 2, 42, [31, 31]⟩,
  ⟨[86, 65, 76, 85, 69], 1, 1, 43, [44]⟩]
def fnV (f : Nat) : Value := .func (.func f) #[] #[]
def entV (least most : Int) (v : Value) : Value := .agg #[.int .i64 least, .int .i64 most, v]
def thrV (a : Nat) : Value := .func (.func 60) #[] #[.pointer (some ⟨a + 1, 0, none⟩), .pointer (some ⟨a + 1 + 1, 0, none⟩)]
def mapEnt (n : Bs) (v : Value) (k : Nat) : MapEntry := { key := .string ⟨n.toArray⟩, val := v, born := k }
/-- the world behind an entry's storing -/
def putM (W : World) (q : Nat) (es : Array MapEntry) (c : Nat) : World := { W with heap := W.heap.setIfInBounds q (.map es c) }
/-- an entry's boxes, from block a on -/
def Boxes (W : World) (a : Nat) (f : Nat) (asks : List Nat) : Prop :=
  (∀ i (h : i < asks.length), W.cell? ⟨a, i, none⟩ = some (fnV asks[i])) ∧ W.cell? ⟨a + 1, 0, none⟩ = some (fnV f) ∧ W.cell? ⟨a + 1 + 1, 0, none⟩ = some (.slice (some ⟨a, 0, none⟩) asks.length asks.length) ∧ a + 1 + 1 < W.heap.size
theorem Boxes.of {B : Nat} {W W' : World} {a f : Nat} {asks : List Nat} (h : Boxes W a f asks) (hb : Below B W W') (hB : a + 1 + 1 < B) : Boxes W' a f asks :=
  ⟨fun i hi => (hb.cell (p := ⟨a, i, none⟩) (show a < B by omega)).trans (h.1 i hi), (hb.cell (p := ⟨a + 1, 0, none⟩) (show a + 1 < B by omega)).trans h.2.1, (hb.cell (p := ⟨a + 1 + 1, 0, none⟩) hB).trans h.2.2.1, Nat.lt_of_lt_of_le h.2.2.2 hb.size⟩
/-- in the map at q = w's size lie the entries es; the boxes of n functions have been laid behind it; w: the world at the call -/
def TM (w : World) (es : Array MapEntry) (c n : Nat) (W : World) : Prop :=
  W.heap.size = w.heap.size + 1 + 3 * n ∧ W.heap[w.heap.size]? = some (.map es c) ∧ Below w.heap.size w W ∧ ∀ j e, j < n → ents12[j]? = some e → Boxes W (w.heap.size + 1 + 3 * j) e.f e.asks
theorem TM.zero (w : World) : TM w #[] 0 0 (w.alloc (.map #[] 0)) :=
  ⟨by rw [World.size_alloc], heap_alloc_new w _, (Below.refl _ w).alloc (Nat.le_refl _) _, fun j e hj => absurd hj (Nat.not_lt_zero _)⟩
theorem cell_putM {W : World} {q : Nat} {es : Array MapEntry} {c b i : Nat} (h : b ≠ q) : (putM W q es c).cell? ⟨b, i, none⟩ = W.cell? ⟨b, i, none⟩ := by
  have e : (putM W q es c).heap[b]? = W.heap[b]? := by
    show (W.heap.setIfInBounds q _)[b]? = _
    rw [Array.getElem?_setIfInBounds_ne (Ne.symm h)]
  exact World.cell?_of_block (w := W) (a := ⟨b, i, none⟩) e
theorem size_putM (W : World) (q : Nat) (es : Array MapEntry) (c : Nat) : (putM W q es c).heap.size = W.heap.size := Array.size_setIfInBounds ..
theorem below_putM {B q : Nat} {W : World} (h : B ≤ q) (es : Array MapEntry) (c : Nat) : Below B W (putM W q es c) :=
  ⟨rfl, rfl, rfl, by rw [size_putM]; exact Nat.le_refl _, fun k hk => Array.getElem?_setIfInBounds_ne (by omega)⟩
theorem TM.put {w W : World} {es : Array MapEntry} {c n : Nat} (h : TM w es c n W) (es' : Array MapEntry) (c' : Nat) : TM w es' c' n (putM W w.heap.size es' c') := by
  obtain ⟨h1, h2, h3, h4⟩ := h
  refine ⟨by rw [size_putM]; exact h1, ?_, h3.trans (below_putM (Nat.le_refl _) _ _), fun j x hj hx => ?_⟩
  · show (W.heap.setIfInBounds _ _)[_]? = _
    rw [Array.getElem?_setIfInBounds_self_of_lt (by omega)]
  · obtain ⟨b1, b2, b3, b4⟩ := h4 j x hj hx
    exact ⟨fun i hi => (cell_putM (by omega)).trans (b1 i hi), (cell_putM (by omega)).trans b2, (cell_putM (by omega)).trans b3, by rw [size_putM]; exact b4⟩
/-- a call of through in such a world -/
theorem thr_any {w W : World} {es : Array MapEntry} {c n a : Nat} {e : Ent} (h : TM w es c n W) (he : ents12[n]? = some e) (ha : a = w.heap.size + 1 + 3 * n) (cs : Array Value) (hc : cs = (e.asks.map fnV).toArray) (m : Nat) (hm : m = e.asks.length) (p : Nat) (hp : p = w.heap.size + 1 + 3 * n) :
    Calls Tryz.prog 29 #[fnV e.f, .slice (some ⟨a, 0, none⟩) m m] (W.alloc (.cells cs 113)) fun x w' => x = .returned (thrV p) ∧ TM w es c (n + 1) w' := by
  subst ha hc hm hp
  obtain ⟨h1, h2, h3, h4⟩ := h
  refine (through_any _ _ _ _ _).mono ?_
  rintro x w1 ⟨rfl, rfl⟩
  rw [World.size_alloc, h1]
  refine ⟨rfl, ?_, ?_, ?_, ?_⟩
  · rw [World.size_alloc, World.size_alloc, World.size_alloc, h1]; omega
  · rw [Below.heap_alloc _ _ _ (by simp only [World.size_alloc]; omega), Below.heap_alloc _ _ _ (by simp only [World.size_alloc]; omega), Below.heap_alloc _ _ _ (by omega)]
    exact h2
  · exact ((h3.alloc (by omega) _).alloc (by rw [World.size_alloc]; omega) _).alloc (by simp only [World.size_alloc]; omega) _
  · have hB : Below W.heap.size W (((W.alloc (.cells (e.asks.map fnV).toArray 113)).alloc (.cells #[fnV e.f] 67)).alloc (.cells #[.slice (some ⟨w.heap.size + 1 + 3 * n, 0, none⟩) e.asks.length e.asks.length] 80)) :=
      (((Below.refl _ W).alloc (Nat.le_refl _) _).alloc (by rw [World.size_alloc]; omega) _).alloc (by simp only [World.size_alloc]; omega) _
    intro j x hj hx
    by_cases hjn : j < n
    · exact (h4 j x hjn hx).of hB (by omega)
    · have hje : j = n := by omega
      subst hje
      rw [he] at hx
      cases hx
      have g0 : Lies (((W.alloc (.cells (e.asks.map fnV).toArray 113)).alloc (.cells #[fnV e.f] 67)).alloc (.cells #[.slice (some ⟨w.heap.size + 1 + 3 * j, 0, none⟩) e.asks.length e.asks.length] 80)) (w.heap.size + 1 + 3 * j) 113 (e.asks.map fnV).toArray := by
        have := ((Lies.new W 113 (e.asks.map fnV).toArray).alloc (.cells #[fnV e.f] 67)).alloc (.cells #[.slice (some ⟨w.heap.size + 1 + 3 * j, 0, none⟩) e.asks.length e.asks.length] 80)
        rw [h1] at this
        exact this
      have g1 : Lies (((W.alloc (.cells (e.asks.map fnV).toArray 113)).alloc (.cells #[fnV e.f] 67)).alloc (.cells #[.slice (some ⟨w.heap.size + 1 + 3 * j, 0, none⟩) e.asks.length e.asks.length] 80)) (w.heap.size + 1 + 3 * j + 1) 67 #[fnV e.f] := by
        have := (Lies.new (W.alloc (.cells (e.asks.map fnV).toArray 113)) 67 #[fnV e.f]).alloc (.cells #[.slice (some ⟨w.heap.size + 1 + 3 * j, 0, none⟩) e.asks.length e.asks.length] 80)
        rw [World.size_alloc, h1] at this
        exact this
      have g2 : Lies (((W.alloc (.cells (e.asks.map fnV).toArray 113)).alloc (.cells #[fnV e.f] 67)).alloc (.cells #[.slice (some ⟨w.heap.size + 1 + 3 * j, 0, none⟩) e.asks.length e.asks.length] 80)) (w.heap.size + 1 + 3 * j + 1 + 1) 80 #[.slice (some ⟨w.heap.size + 1 + 3 * j, 0, none⟩) e.asks.length e.asks.length] := by
        have := Lies.new ((W.alloc (.cells (e.asks.map fnV).toArray 113)).alloc (.cells #[fnV e.f] 67)) 80 #[.slice (some ⟨w.heap.size + 1 + 3 * j, 0, none⟩) e.asks.length e.asks.length]
        rw [World.size_alloc, World.size_alloc, h1] at this
        exact this
      refine ⟨fun i hi => ?_, (g1.cell 0).trans rfl, (g2.cell 0).trans rfl, g2.lt⟩
      refine (g0.cell i).trans ?_
      simp [hi]
theorem run_put_tab {w W : World} {es : Array MapEntry} {c n : Nat} (h : TM w es c n W) (s : ByteArray) (val : Value) (hf : Instr.findNow .string (.string s) es.toList 0 = some none) :
    (Instr.mapUpdate 51 (.map (some w.heap.size)) (.string s) val).run Tryz.prog W = .ok () (putM W w.heap.size (es.push { key := .string s, val := val, born := c }) (c + 1)) :=
  run_put_new 51 9 49 w.heap.size c es s val uTab Tryz.underlying9 h.2.1 hf
def tabA (q : Nat) : Array MapEntry := #[
  mapEnt [76, 69, 78] (entV 1 1 (thrV (q + 1))) 0,
  mapEnt [76, 69, 70, 84] (entV 1 2 (thrV (q + 4))) 1,
  mapEnt [82, 73, 71, 72, 84] (entV 1 2 (thrV (q + 7))) 2,
  mapEnt [77, 73, 68] (entV 3 3 (thrV (q + 10))) 3,
  mapEnt [85, 80, 80, 69, 82] (entV 1 1 (thrV (q + 13))) 4,
  mapEnt [76, 79, 87, 69, 82] (entV 1 1 (thrV (q + 16))) 5,
  mapEnt [84, 82, 73, 77] (entV 1 1 (thrV (q + 19))) 6,
  mapEnt [70, 73, 78, 68] (entV 2 3 (thrV (q + 22))) 7,
  mapEnt [83, 85, 66, 83, 84, 73, 84, 85, 84, 69] (entV 3 4 (thrV (q + 25))) 8,
  mapEnt [82, 69, 80, 84] (entV 2 2 (thrV (q + 28))) 9,
  mapEnt [69, 88, 65, 67, 84] (entV 2 2 (thrV (q + 31))) 10,
  mapEnt [86, 65, 76, 85, 69] (entV 1 1 (thrV (q + 34))) 11,
  mapEnt [67, 79, 78, 67, 65, 84] (entV 1 32 (fnV 45)) 12,
  mapEnt [84, 69, 88, 84, 74, 79, 73, 78] (entV 3 32 (fnV 46)) 13,
  mapEnt [84, 69, 88, 84, 83, 80, 76, 73, 84] (entV 2 2 (fnV 47)) 14]
set_option maxRecDepth 100000 in
set_option maxHeartbeats 6400000 in
theorem table_any (w : World) : Calls Tryz.prog 20 #[] w fun e w' => e = .returned (.map (some w.heap.size)) ∧ TM w (tabA w.heap.size) 15 12 w' := by
  have hmm := @run_makeMap Tryz.prog
  have T0 := Lib.hid (TM.zero w)
  go_enter Tryz.func20, Tryz.ntmps20
  go_wp2_with fail
  refine Calls.mono (thr_any T0.out (e := ents12[0]) rfl ?_ _ ?_ _ ?_ (w.heap.size + 1) ?_) ?_
  · first | rfl | omega
  · rfl
  · rfl
  · omega
  rintro x v0 ⟨rfl, h0⟩
  have z0 : ∀ es c, (putM v0 w.heap.size es c).heap.size = w.heap.size + 4 := fun es c => by rw [size_putM, h0.1]
  have p0 := fun val => run_put_tab h0 ⟨#[76, 69, 78]⟩ val (by rfl)
  have R0 := Lib.hid h0
  clear h0
  unfold thrV
  go_wp2_with fail
  refine Calls.mono (thr_any (Lib.hid (R0.out.put _ _)).out (e := ents12[1]) rfl ?_ _ ?_ _ ?_ (w.heap.size + 4) ?_) ?_
  · first | rfl | omega
  · rfl
  · rfl
  · omega
  rintro x v1 ⟨rfl, h1⟩
  have z1 : ∀ es c, (putM v1 w.heap.size es c).heap.size = w.heap.size + 7 := fun es c => by rw [size_putM, h1.1]
  have p1 := fun val => run_put_tab h1 ⟨#[76, 69, 70, 84]⟩ val (by rfl)
  have R1 := Lib.hid h1
  clear h1
  unfold thrV
  go_wp2_with fail
  refine Calls.mono (thr_any (Lib.hid (R1.out.put _ _)).out (e := ents12[2]) rfl ?_ _ ?_ _ ?_ (w.heap.size + 7) ?_) ?_
  · first | rfl | omega
  · rfl
  · rfl
  · omega
  rintro x v2 ⟨rfl, h2⟩
  have z2 : ∀ es c, (putM v2 w.heap.size es c).heap.size = w.heap.size + 10 := fun es c => by rw [size_putM, h2.1]
  have p2 := fun val => run_put_tab h2 ⟨#[82, 73, 71, 72, 84]⟩ val (by rfl)
  have R2 := Lib.hid h2
  clear h2
  unfold thrV
  go_wp2_with fail
  refine Calls.mono (thr_any (Lib.hid (R2.out.put _ _)).out (e := ents12[3]) rfl ?_ _ ?_ _ ?_ (w.heap.size + 10) ?_) ?_
  · first | rfl | omega
  · rfl
  · rfl
  · omega
  rintro x v3 ⟨rfl, h3⟩
  have z3 : ∀ es c, (putM v3 w.heap.size es c).heap.size = w.heap.size + 13 := fun es c => by rw [size_putM, h3.1]
  have p3 := fun val => run_put_tab h3 ⟨#[77, 73, 68]⟩ val (by rfl)
  have R3 := Lib.hid h3
  clear h3
  unfold thrV
  go_wp2_with fail
  refine Calls.mono (thr_any (Lib.hid (R3.out.put _ _)).out (e := ents12[4]) rfl ?_ _ ?_ _ ?_ (w.heap.size + 13) ?_) ?_
  · first | rfl | omega
  · rfl
  · rfl
  · omega
  rintro x v4 ⟨rfl, h4⟩
  have z4 : ∀ es c, (putM v4 w.heap.size es c).heap.size = w.heap.size + 16 := fun es c => by rw [size_putM, h4.1]
  have p4 := fun val => run_put_tab h4 ⟨#[85, 80, 80, 69, 82]⟩ val (by rfl)
  have R4 := Lib.hid h4
  clear h4
  unfold thrV
  go_wp2_with fail
  refine Calls.mono (thr_any (Lib.hid (R4.out.put _ _)).out (e := ents12[5]) rfl ?_ _ ?_ _ ?_ (w.heap.size + 16) ?_) ?_
  · first | rfl | omega
  · rfl
  · rfl
  · omega
  rintro x v5 ⟨rfl, h5⟩
  have z5 : ∀ es c, (putM v5 w.heap.size es c).heap.size = w.heap.size + 19 := fun es c => by rw [size_putM, h5.1]
  have p5 := fun val => run_put_tab h5 ⟨#[76, 79, 87, 69, 82]⟩ val (by rfl)
  have R5 := Lib.hid h5
  clear h5
  unfold thrV
  go_wp2_with fail
  refine Calls.mono (thr_any (Lib.hid (R5.out.put _ _)).out (e := ents12[6]) rfl ?_ _ ?_ _ ?_ (w.heap.size + 19) ?_) ?_
  · first | rfl | omega
  · rfl
  · rfl
  · omega
  rintro x v6 ⟨rfl, h6⟩
  have z6 : ∀ es c, (putM v6 w.heap.size es c).heap.size = w.heap.size + 22 := fun es c => by rw [size_putM, h6.1]
  have p6 := fun val => run_put_tab h6 ⟨#[84, 82, 73, 77]⟩ val (by rfl)
  have R6 := Lib.hid h6
  clear h6
  unfold thrV
  go_wp2_with fail
  refine Calls.mono (thr_any (Lib.hid (R6.out.put _ _)).out (e := ents12[7]) rfl ?_ _ ?_ _ ?_ (w.heap.size + 22) ?_) ?_
  · first | rfl | omega
  · rfl
  · rfl
  · omega
  rintro x v7 ⟨rfl, h7⟩
  have z7 : ∀ es c, (putM v7 w.heap.size es c).heap.size = w.heap.size + 25 := fun es c => by rw [size_putM, h7.1]
  have p7 := fun val => run_put_tab h7 ⟨#[70, 73, 78, 68]⟩ val (by rfl)
  have R7 := Lib.hid h7
  clear h7
  unfold thrV
  go_wp2_with fail
  refine Calls.mono (thr_any (Lib.hid (R7.out.put _ _)).out (e := ents12[8]) rfl ?_ _ ?_ _ ?_ (w.heap.size + 25) ?_) ?_
  · first | rfl | omega
  · rfl
  · rfl
  · omega
  rintro x v8 ⟨rfl, h8⟩
  have z8 : ∀ es c, (putM v8 w.heap.size es c).heap.size = w.heap.size + 28 := fun es c => by rw [size_putM, h8.1]
  have p8 := fun val => run_put_tab h8 ⟨#[83, 85, 66, 83, 84, 73, 84, 85, 84, 69]⟩ val (by rfl)
  have R8 := Lib.hid h8
  clear h8
  unfold thrV
  go_wp2_with fail
  refine Calls.mono (thr_any (Lib.hid (R8.out.put _ _)).out (e := ents12[9]) rfl ?_ _ ?_ _ ?_ (w.heap.size + 28) ?_) ?_
  · first | rfl | omega
  · rfl
  · rfl
  · omega
  rintro x v9 ⟨rfl, h9⟩
  have z9 : ∀ es c, (putM v9 w.heap.size es c).heap.size = w.heap.size + 31 := fun es c => by rw [size_putM, h9.1]
  have p9 := fun val => run_put_tab h9 ⟨#[82, 69, 80, 84]⟩ val (by rfl)
  have R9 := Lib.hid h9
  clear h9
  unfold thrV
  go_wp2_with fail
  refine Calls.mono (thr_any (Lib.hid (R9.out.put _ _)).out (e := ents12[10]) rfl ?_ _ ?_ _ ?_ (w.heap.size + 31) ?_) ?_
  · first | rfl | omega
  · rfl
  · rfl
  · omega
  rintro x v10 ⟨rfl, h10⟩
  have z10 : ∀ es c, (putM v10 w.heap.size es c).heap.size = w.heap.size + 34 := fun es c => by rw [size_putM, h10.1]
  have p10 := fun val => run_put_tab h10 ⟨#[69, 88, 65, 67, 84]⟩ val (by rfl)
  have R10 := Lib.hid h10
  clear h10
  unfold thrV
  go_wp2_with fail
  refine Calls.mono (thr_any (Lib.hid (R10.out.put _ _)).out (e := ents12[11]) rfl ?_ _ ?_ _ ?_ (w.heap.size + 34) ?_) ?_
  · first | rfl | omega
  · rfl
  · rfl
  · omega
  rintro x v11 ⟨rfl, h11⟩
  have z11 : ∀ es c, (putM v11 w.heap.size es c).heap.size = w.heap.size + 37 := fun es c => by rw [size_putM, h11.1]
  have p11 := fun val => run_put_tab h11 ⟨#[86, 65, 76, 85, 69]⟩ val (by rfl)
  have p12 := fun val => run_put_tab (h11.put (#[mapEnt [76, 69, 78] (entV 1 1 (thrV (w.heap.size + 1))) 0, mapEnt [76, 69, 70, 84] (entV 1 2 (thrV (w.heap.size + 4))) 1, mapEnt [82, 73, 71, 72, 84] (entV 1 2 (thrV (w.heap.size + 7))) 2, mapEnt [77, 73, 68] (entV 3 3 (thrV (w.heap.size + 10))) 3, mapEnt [85, 80, 80, 69, 82] (entV 1 1 (thrV (w.heap.size + 13))) 4, mapEnt [76, 79, 87, 69, 82] (entV 1 1 (thrV (w.heap.size + 16))) 5, mapEnt [84, 82, 73, 77] (entV 1 1 (thrV (w.heap.size + 19))) 6, mapEnt [70, 73, 78, 68] (entV 2 3 (thrV (w.heap.size + 22))) 7, mapEnt [83, 85, 66, 83, 84, 73, 84, 85, 84, 69] (entV 3 4 (thrV (w.heap.size + 25))) 8, mapEnt [82, 69, 80, 84] (entV 2 2 (thrV (w.heap.size + 28))) 9, mapEnt [69, 88, 65, 67, 84] (entV 2 2 (thrV (w.heap.size + 31))) 10, mapEnt [86, 65, 76, 85, 69] (entV 1 1 (thrV (w.heap.size + 34))) 11] : Array MapEntry) 12) ⟨#[67, 79, 78, 67, 65, 84]⟩ val (by rfl)
  simp only [mapEnt, entV, thrV] at p12
  have p13 := fun val => run_put_tab ((h11.put (#[mapEnt [76, 69, 78] (entV 1 1 (thrV (w.heap.size + 1))) 0, mapEnt [76, 69, 70, 84] (entV 1 2 (thrV (w.heap.size + 4))) 1, mapEnt [82, 73, 71, 72, 84] (entV 1 2 (thrV (w.heap.size + 7))) 2, mapEnt [77, 73, 68] (entV 3 3 (thrV (w.heap.size + 10))) 3, mapEnt [85, 80, 80, 69, 82] (entV 1 1 (thrV (w.heap.size + 13))) 4, mapEnt [76, 79, 87, 69, 82] (entV 1 1 (thrV (w.heap.size + 16))) 5, mapEnt [84, 82, 73, 77] (entV 1 1 (thrV (w.heap.size + 19))) 6, mapEnt [70, 73, 78, 68] (entV 2 3 (thrV (w.heap.size + 22))) 7, mapEnt [83, 85, 66, 83, 84, 73, 84, 85, 84, 69] (entV 3 4 (thrV (w.heap.size + 25))) 8, mapEnt [82, 69, 80, 84] (entV 2 2 (thrV (w.heap.size + 28))) 9, mapEnt [69, 88, 65, 67, 84] (entV 2 2 (thrV (w.heap.size + 31))) 10, mapEnt [86, 65, 76, 85, 69] (entV 1 1 (thrV (w.heap.size + 34))) 11] : Array MapEntry) 12).put (#[mapEnt [76, 69, 78] (entV 1 1 (thrV (w.heap.size + 1))) 0, mapEnt [76, 69, 70, 84] (entV 1 2 (thrV (w.heap.size + 4))) 1, mapEnt [82, 73, 71, 72, 84] (entV 1 2 (thrV (w.heap.size + 7))) 2, mapEnt [77, 73, 68] (entV 3 3 (thrV (w.heap.size + 10))) 3, mapEnt [85, 80, 80, 69, 82] (entV 1 1 (thrV (w.heap.size + 13))) 4, mapEnt [76, 79, 87, 69, 82] (entV 1 1 (thrV (w.heap.size + 16))) 5, mapEnt [84, 82, 73, 77] (entV 1 1 (thrV (w.heap.size + 19))) 6, mapEnt [70, 73, 78, 68] (entV 2 3 (thrV (w.heap.size + 22))) 7, mapEnt [83, 85, 66, 83, 84, 73, 84, 85, 84, 69] (entV 3 4 (thrV (w.heap.size + 25))) 8, mapEnt [82, 69, 80, 84] (entV 2 2 (thrV (w.heap.size + 28))) 9, mapEnt [69, 88, 65, 67, 84] (entV 2 2 (thrV (w.heap.size + 31))) 10, mapEnt [86, 65, 76, 85, 69] (entV 1 1 (thrV (w.heap.size + 34))) 11, mapEnt [67, 79, 78, 67, 65, 84] (entV 1 32 (fnV 45)) 12] : Array MapEntry) 13) ⟨#[84, 69, 88, 84, 74, 79, 73, 78]⟩ val (by rfl)
  simp only [mapEnt, entV, thrV, fnV] at p13
  have p14 := fun val => run_put_tab (((h11.put (#[mapEnt [76, 69, 78] (entV 1 1 (thrV (w.heap.size + 1))) 0, mapEnt [76, 69, 70, 84] (entV 1 2 (thrV (w.heap.size + 4))) 1, mapEnt [82, 73, 71, 72, 84] (entV 1 2 (thrV (w.heap.size + 7))) 2, mapEnt [77, 73, 68] (entV 3 3 (thrV (w.heap.size + 10))) 3, mapEnt [85, 80, 80, 69, 82] (entV 1 1 (thrV (w.heap.size + 13))) 4, mapEnt [76, 79, 87, 69, 82] (entV 1 1 (thrV (w.heap.size + 16))) 5, mapEnt [84, 82, 73, 77] (entV 1 1 (thrV (w.heap.size + 19))) 6, mapEnt [70, 73, 78, 68] (entV 2 3 (thrV (w.heap.size + 22))) 7, mapEnt [83, 85, 66, 83, 84, 73, 84, 85, 84, 69] (entV 3 4 (thrV (w.heap.size + 25))) 8, mapEnt [82, 69, 80, 84] (entV 2 2 (thrV (w.heap.size + 28))) 9, mapEnt [69, 88, 65, 67, 84] (entV 2 2 (thrV (w.heap.size + 31))) 10, mapEnt [86, 65, 76, 85, 69] (entV 1 1 (thrV (w.heap.size + 34))) 11] : Array MapEntry) 12).put (#[mapEnt [76, 69, 78] (entV 1 1 (thrV (w.heap.size + 1))) 0, mapEnt [76, 69, 70, 84] (entV 1 2 (thrV (w.heap.size + 4))) 1, mapEnt [82, 73, 71, 72, 84] (entV 1 2 (thrV (w.heap.size + 7))) 2, mapEnt [77, 73, 68] (entV 3 3 (thrV (w.heap.size + 10))) 3, mapEnt [85, 80, 80, 69, 82] (entV 1 1 (thrV (w.heap.size + 13))) 4, mapEnt [76, 79, 87, 69, 82] (entV 1 1 (thrV (w.heap.size + 16))) 5, mapEnt [84, 82, 73, 77] (entV 1 1 (thrV (w.heap.size + 19))) 6, mapEnt [70, 73, 78, 68] (entV 2 3 (thrV (w.heap.size + 22))) 7, mapEnt [83, 85, 66, 83, 84, 73, 84, 85, 84, 69] (entV 3 4 (thrV (w.heap.size + 25))) 8, mapEnt [82, 69, 80, 84] (entV 2 2 (thrV (w.heap.size + 28))) 9, mapEnt [69, 88, 65, 67, 84] (entV 2 2 (thrV (w.heap.size + 31))) 10, mapEnt [86, 65, 76, 85, 69] (entV 1 1 (thrV (w.heap.size + 34))) 11, mapEnt [67, 79, 78, 67, 65, 84] (entV 1 32 (fnV 45)) 12] : Array MapEntry) 13).put (#[mapEnt [76, 69, 78] (entV 1 1 (thrV (w.heap.size + 1))) 0, mapEnt [76, 69, 70, 84] (entV 1 2 (thrV (w.heap.size + 4))) 1, mapEnt [82, 73, 71, 72, 84] (entV 1 2 (thrV (w.heap.size + 7))) 2, mapEnt [77, 73, 68] (entV 3 3 (thrV (w.heap.size + 10))) 3, mapEnt [85, 80, 80, 69, 82] (entV 1 1 (thrV (w.heap.size + 13))) 4, mapEnt [76, 79, 87, 69, 82] (entV 1 1 (thrV (w.heap.size + 16))) 5, mapEnt [84, 82, 73, 77] (entV 1 1 (thrV (w.heap.size + 19))) 6, mapEnt [70, 73, 78, 68] (entV 2 3 (thrV (w.heap.size + 22))) 7, mapEnt [83, 85, 66, 83, 84, 73, 84, 85, 84, 69] (entV 3 4 (thrV (w.heap.size + 25))) 8, mapEnt [82, 69, 80, 84] (entV 2 2 (thrV (w.heap.size + 28))) 9, mapEnt [69, 88, 65, 67, 84] (entV 2 2 (thrV (w.heap.size + 31))) 10, mapEnt [86, 65, 76, 85, 69] (entV 1 1 (thrV (w.heap.size + 34))) 11, mapEnt [67, 79, 78, 67, 65, 84] (entV 1 32 (fnV 45)) 12, mapEnt [84, 69, 88, 84, 74, 79, 73, 78] (entV 3 32 (fnV 46)) 13] : Array MapEntry) 14) ⟨#[84, 69, 88, 84, 83, 80, 76, 73, 84]⟩ val (by rfl)
  simp only [mapEnt, entV, thrV, fnV] at p14
  have R11 := Lib.hid h11
  clear h11
  unfold thrV
  go_wp2_with fail
  refine bodyPost_ret (v := .map (some w.heap.size)) (by simp [results, Tryz.results20, go_sem]) rfl ?_
  refine ⟨rfl, ?_⟩
  have hT := (((R11.out.put (#[mapEnt [76, 69, 78] (entV 1 1 (thrV (w.heap.size + 1))) 0, mapEnt [76, 69, 70, 84] (entV 1 2 (thrV (w.heap.size + 4))) 1, mapEnt [82, 73, 71, 72, 84] (entV 1 2 (thrV (w.heap.size + 7))) 2, mapEnt [77, 73, 68] (entV 3 3 (thrV (w.heap.size + 10))) 3, mapEnt [85, 80, 80, 69, 82] (entV 1 1 (thrV (w.heap.size + 13))) 4, mapEnt [76, 79, 87, 69, 82] (entV 1 1 (thrV (w.heap.size + 16))) 5, mapEnt [84, 82, 73, 77] (entV 1 1 (thrV (w.heap.size + 19))) 6, mapEnt [70, 73, 78, 68] (entV 2 3 (thrV (w.heap.size + 22))) 7, mapEnt [83, 85, 66, 83, 84, 73, 84, 85, 84, 69] (entV 3 4 (thrV (w.heap.size + 25))) 8, mapEnt [82, 69, 80, 84] (entV 2 2 (thrV (w.heap.size + 28))) 9, mapEnt [69, 88, 65, 67, 84] (entV 2 2 (thrV (w.heap.size + 31))) 10, mapEnt [86, 65, 76, 85, 69] (entV 1 1 (thrV (w.heap.size + 34))) 11] : Array MapEntry) 12).put (#[mapEnt [76, 69, 78] (entV 1 1 (thrV (w.heap.size + 1))) 0, mapEnt [76, 69, 70, 84] (entV 1 2 (thrV (w.heap.size + 4))) 1, mapEnt [82, 73, 71, 72, 84] (entV 1 2 (thrV (w.heap.size + 7))) 2, mapEnt [77, 73, 68] (entV 3 3 (thrV (w.heap.size + 10))) 3, mapEnt [85, 80, 80, 69, 82] (entV 1 1 (thrV (w.heap.size + 13))) 4, mapEnt [76, 79, 87, 69, 82] (entV 1 1 (thrV (w.heap.size + 16))) 5, mapEnt [84, 82, 73, 77] (entV 1 1 (thrV (w.heap.size + 19))) 6, mapEnt [70, 73, 78, 68] (entV 2 3 (thrV (w.heap.size + 22))) 7, mapEnt [83, 85, 66, 83, 84, 73, 84, 85, 84, 69] (entV 3 4 (thrV (w.heap.size + 25))) 8, mapEnt [82, 69, 80, 84] (entV 2 2 (thrV (w.heap.size + 28))) 9, mapEnt [69, 88, 65, 67, 84] (entV 2 2 (thrV (w.heap.size + 31))) 10, mapEnt [86, 65, 76, 85, 69] (entV 1 1 (thrV (w.heap.size + 34))) 11, mapEnt [67, 79, 78, 67, 65, 84] (entV 1 32 (fnV 45)) 12] : Array MapEntry) 13).put (#[mapEnt [76, 69, 78] (entV 1 1 (thrV (w.heap.size + 1))) 0, mapEnt [76, 69, 70, 84] (entV 1 2 (thrV (w.heap.size + 4))) 1, mapEnt [82, 73, 71, 72, 84] (entV 1 2 (thrV (w.heap.size + 7))) 2, mapEnt [77, 73, 68] (entV 3 3 (thrV (w.heap.size + 10))) 3, mapEnt [85, 80, 80, 69, 82] (entV 1 1 (thrV (w.heap.size + 13))) 4, mapEnt [76, 79, 87, 69, 82] (entV 1 1 (thrV (w.heap.size + 16))) 5, mapEnt [84, 82, 73, 77] (entV 1 1 (thrV (w.heap.size + 19))) 6, mapEnt [70, 73, 78, 68] (entV 2 3 (thrV (w.heap.size + 22))) 7, mapEnt [83, 85, 66, 83, 84, 73, 84, 85, 84, 69] (entV 3 4 (thrV (w.heap.size + 25))) 8, mapEnt [82, 69, 80, 84] (entV 2 2 (thrV (w.heap.size + 28))) 9, mapEnt [69, 88, 65, 67, 84] (entV 2 2 (thrV (w.heap.size + 31))) 10, mapEnt [86, 65, 76, 85, 69] (entV 1 1 (thrV (w.heap.size + 34))) 11, mapEnt [67, 79, 78, 67, 65, 84] (entV 1 32 (fnV 45)) 12, mapEnt [84, 69, 88, 84, 74, 79, 73, 78] (entV 3 32 (fnV 46)) 13] : Array MapEntry) 14).put (tabA w.heap.size) 15
  simp only [tabA, mapEnt, entV, thrV, fnV] at hT ⊢
  exact hT
end Go.Proofs.YtpdaloohgfnbhaaGreatDoor
