/-
  A reader of a number's text, in memory: what (*num.reader).digit and take do.
-/
import Derived.Test.YtcgdeoldgnjdeaaDoorKit
import Derived.Test.YtcgdeoldgnjdeaaDoorPlainP
import Derived.Maps.AppendAt
import Derived.Lib.OthersKept
namespace Go.Proofs.YtcgdeoldgnjdeaaDoor
open Go.RowKit

/-- a block that is known whole, nothing in it frozen -/
def Lies (w : World) (g : Nat) (t : TypeId) (cs : Array Value) : Prop := w.heap[g]? = some (.cells cs t (0, 0))
theorem Lies.lt {w : World} {g : Nat} {t : TypeId} {cs : Array Value} (h : Lies w g t cs) : g < w.heap.size := (Array.getElem?_eq_some_iff.1 h).1
theorem Lies.cell {w : World} {g : Nat} {t : TypeId} {cs : Array Value} (h : Lies w g t cs) (i : Nat) : w.cell? ⟨g, i, none⟩ = cs[i]? := cell_of_row w g i cs t (0, 0) h
theorem Lies.frozen {w : World} {g : Nat} {t : TypeId} {cs : Array Value} (h : Lies w g t cs) (i : Nat) : w.frozen? ⟨g, i, none⟩ = false := by
  unfold Lies at h
  simp [World.frozen?, h]
theorem Lies.put {w : World} {g : Nat} {t : TypeId} {cs : Array Value} (h : Lies w g t cs) (i : Nat) (u : Value) : Lies (w.setCell ⟨g, i, none⟩ u) g t (cs.setIfInBounds i u) := by
  unfold Lies at h ⊢
  simp [World.setCell, Array.getElem?_modify, h]
theorem Lies.new (w : World) (t : TypeId) (cs : Array Value) : Lies (w.alloc (.cells cs t)) w.heap.size t cs := heap_alloc_new w _
/-- all but block b, below base, is as it was -/
structure Kept (b base : Nat) (w w' : World) : Prop where
  os : w'.os = w.os
  tape : w'.tape = w.tape
  output : w'.output = w.output
  size : w.heap.size ≤ w'.heap.size
  block : ∀ k, k < base → k ≠ b → w'.heap[k]? = w.heap[k]?
theorem Kept.refl (b base : Nat) (w : World) : Kept b base w w := ⟨rfl, rfl, rfl, Nat.le_refl _, fun _ _ _ => rfl⟩
theorem Kept.trans {b base : Nat} {u v w : World} (h : Kept b base u v) (k : Kept b base v w) : Kept b base u w :=
  ⟨k.os.trans h.os, k.tape.trans h.tape, k.output.trans h.output, Nat.le_trans h.size k.size, fun i h1 h2 => (k.block i h1 h2).trans (h.block i h1 h2)⟩
theorem Kept.put {b base : Nat} {u w : World} (h : Kept b base u w) (i : Nat) (x : Value) : Kept b base u (w.setCell ⟨b, i, none⟩ x) :=
  h.trans ⟨rfl, rfl, rfl, by simp [World.setCell], fun k _ hk => Below.heap_setCell w _ x k hk⟩
theorem Kept.alloc {b base : Nat} {u w : World} (h : Kept b base u w) (hb : base ≤ w.heap.size) (o : Obj) : Kept b base u (w.alloc o) :=
  h.trans ⟨rfl, rfl, rfl, by simp, fun k hk _ => Below.heap_alloc _ _ _ (by omega)⟩
theorem Kept.grown {b base : Nat} {u w w' : World} {row : Option Nat} (h : Kept b base u w) (hg : w.grownBy w' row) (hb : base ≤ w.heap.size) (hr : ∀ k, row = some k → base ≤ k) : Kept b base u w' :=
  h.trans ⟨hg.os, hg.tape, hg.output, hg.size, fun k hk _ => hg.block k (by omega) (fun e => by have := hr k e.symm; omega)⟩
theorem Kept.below {b base B : Nat} {w w' : World} (h : Kept b base w w') (hB : B ≤ b) (hb : b < base) : Below B w w' :=
  ⟨h.os, h.tape, h.output, h.size, fun k hk => h.block k (by omega) (by omega)⟩

def byteV (d : Nat) : Value := .int .u8 (d : Int)
def rdCells (r : Rd) (v : Value) : Array Value := #[.int .i64 r.st, .bool r.neg, .bool r.negPow, v, .int .i64 r.behind, .int .i64 r.pow]
/-- a reader lies in block b, its digits from base on -/
def RdIn (w : World) (b base : Nat) (r : Rd) : Prop := ∃ v, Lies w b 115 (rdCells r v) ∧ w.ownsRow base 5 1 v r.ds.length (r.ds.map byteV)
/-- what a reader may hold -/
structure Rd.Fit (r : Rd) : Prop where
  st : r.st ≤ 7
  ds : r.ds.length ≤ 1000
  behind : r.behind ≤ 1000
  pow : r.pow ≤ 2000000
theorem own_ge {w : World} {base : Nat} {e : TypeId} {size : Nat} {v : Value} {n : Nat} {xs : List Value} (h : w.ownsRow base e size v n xs) : ∀ k, v.ownBlock = some k → base ≤ k := by
  intro k hk
  rcases h.2 with ⟨rfl, _⟩ | ⟨g, cap, cur, rfl, hg, _⟩
  · simp [Value.ownBlock] at hk
  · simp [Value.ownBlock] at hk; omega
theorem infoU8 : (Tryd.prog.info? 5).map (fun i => (i.zero, i.size, i.bytes)) = some (some (.int .u8 0), 1, 1) := by kernel_rfl

theorem one_cell (w : World) (u : Value) (t : TypeId) (n j : Nat) (x : Value) (hn : n = w.heap.size) (hj : [u][j]? = some x) : (w.alloc (.cells #[u] t)).cell? ((⟨n, 0, none⟩ : Addr).add j) = some x := by
  subst hn
  match j, hj with
  | 0, hj => simp at hj; subst hj; simp [Addr.add]
theorem Lies.alloc {w : World} {g : Nat} {t : TypeId} {cs : Array Value} (h : Lies w g t cs) (o : Obj) : Lies (w.alloc o) g t cs := (Below.heap_alloc w o g h.lt).trans h
theorem Lies.grown {w w' : World} {g : Nat} {t : TypeId} {cs : Array Value} {row : Option Nat} (h : Lies w g t cs) (hg : w.grownBy w' row) (hr : some g ≠ row) : Lies w' g t cs := (hg.block g h.lt hr).trans h
theorem Lies.kept {w w' : World} {g : Nat} {t : TypeId} {cs : Array Value} {b base : Nat} (h : Lies w g t cs) (hk : Kept b base w w') (h1 : g < base) (h2 : g ≠ b) : Lies w' g t cs := (hk.block g h1 h2).trans h
/-- what is left when a digit has been appended -/
theorem digit_rest {w w1 : World} {b base : Nat} {r : Rd} {v v' : Value} {d : Nat} (hb : b < base) (hbs : base ≤ w.heap.size) (hl : Lies w b 115 (rdCells r v)) (hown : w.ownsRow base 5 1 v r.ds.length (r.ds.map byteV))
    (h1 : w1.ownsRow base 5 1 v' (r.ds.length + 1) (r.ds.map byteV ++ [byteV d])) (hg : (w.alloc (.cells #[byteV d] 5)).grownBy w1 v.ownBlock) :
    ∃ g cap, v' = .slice (some ⟨g, 0, none⟩) (r.ds.length + 1) cap ∧ Lies w1 b 115 (rdCells r v) ∧ Kept b base w w1 ∧
      RdIn (w1.setCell ⟨b, 3, none⟩ (.slice (some ⟨g, 0, none⟩) (r.ds.length + 1) cap)) b base { r with ds := r.ds ++ [d] } := by
  obtain ⟨g, cap, rfl⟩ : ∃ g cap, v' = .slice (some ⟨g, 0, none⟩) (r.ds.length + 1) cap := by
    rcases h1.2 with ⟨_, h⟩ | ⟨g, cap, _, h, _⟩
    · omega
    · exact ⟨g, cap, h⟩
  have hl1 : Lies w1 b 115 (rdCells r v) := (hl.alloc _).grown hg (fun e => by have := own_ge hown b e.symm; omega)
  have hk : Kept b base w w1 := ((Kept.refl b base w).alloc hbs _).grown hg (by simp; omega) (own_ge hown)
  refine ⟨g, cap, rfl, hl1, hk, .slice (some ⟨g, 0, none⟩) (r.ds.length + 1) cap, hl1.put 3 _, ?_⟩
  have := ownsRow_setCell_below h1 (a := ⟨b, 3, none⟩) hb (.slice (some ⟨g, 0, none⟩) (r.ds.length + 1) cap)
  simpa using this
set_option maxRecDepth 100000 in
set_option maxHeartbeats 1600000 in
theorem digit_low (r : Rd) (c b base : Nat) (w : World) (h1 : 48 ≤ c) (h2 : c ≤ 57) (h : RdIn w b base r) (hb : b < base) (hbs : base ≤ w.heap.size) (hs : r.st ≤ 2) (hf : r.Fit) :
    Calls Tryd.prog 138 #[.pointer (some ⟨b, 0, none⟩), .int .i32 (c : Int)] w fun e w' => e = .returned (.tuple #[]) ∧ RdIn w' b base (r.digit (c - 48)) ∧ Kept b base w w' := by
  obtain ⟨i0, hi, hz0, hz1, hz2⟩ := info_parts infoU8
  have hD : r.digit (c - 48) = { r with st := 2, ds := r.ds ++ [c - 48] } := if_pos hs
  rw [hD]
  clear hD
  obtain ⟨v, hl, hown⟩ := h
  obtain ⟨st, ng, np, ds, bh, pw⟩ := r
  have hlen := hf.ds
  dsimp only at hs hlen hown hl ⊢
  have c0 := hl.cell 0
  have c3 := hl.cell 3
  have f0 := hl.frozen 0
  have f3 := hl.frozen 3
  simp [rdCells] at c0 c3
  have HL : Hid (Lies (w.setCell ⟨b, 0, none⟩ (.int .i64 2)) b 115 (rdCells ⟨2, ng, np, ds, bh, pw⟩ v)) := Lib.hid (hl.put 0 (.int .i64 2))
  have HO := Lib.hid (ownsRow_setCell_below hown (a := ⟨b, 0, none⟩) hb (.int .i64 2))
  have HK := Lib.hid ((Kept.refl b base w).put 0 (.int .i64 2))
  have hv1 : IntKind.i32.wrap ((c : Int) - 48) = (c : Int) - 48 := by simp [IntKind.wrap, IntKind.bits, IntKind.signed]; omega
  have hv2 : IntKind.u8.wrap ((c : Int) - 48) = (c : Int) - 48 := by simp [IntKind.wrap, IntKind.bits, IntKind.signed]; omega
  have HV : Hid ((((c - 48 : Nat) : Nat) : Int) = (c : Int) - 48) := Lib.hid (by omega)
  clear hf hl hown
  rcases (by omega : st = 0 ∨ st = 1 ∨ st = 2) with rfl | rfl | rfl
  all_goals
    go_enter Tryd.func138, Tryd.ntmps138
    go_wp2_with (at_builtin; refine wpList_append_own _ rfl (.tmp 52) (.tmp 56) 36 rfl base 5 i0 (.int .u8 0) 1 1 Tryd.underlying36 hi hz0 hz1 hz2 rfl (by decide) v ds.length (ds.map byteV) rfl (HO.out.alloc _) ⟨w.heap.size, 0, none⟩ 1 1 [byteV (c - 48)] rfl rfl ?c1 ?c2 ?c3 ?c4 ?c5 ?_)
    case c1 => intro j u hj; unfold byteV at hj; rw [HV.out] at hj; exact one_cell _ _ _ _ j u (by simp) hj
    case c2 => intro u hu; simp at hu; subst hu; rfl
    case c3 => unfold maxLen; omega
    case c4 => omega
    case c5 => simp; omega
    intro v' w1 hown1 hg1 _
    have hg2 : ((w.setCell ⟨b, 0, none⟩ (.int .i64 2)).alloc (.cells #[byteV (c - 48)] 5)).grownBy w1 v.ownBlock := by unfold byteV; rw [HV.out]; exact hg1
    obtain ⟨g, cap, rfl, hl1, hk1, hr1⟩ := digit_rest (r := ⟨2, ng, np, ds, bh, pw⟩) hb (by simpa using hbs) HL.out HO.out hown1 hg2
    have HR := Lib.hid hr1
    have HK1 := Lib.hid hk1
    have d3 := hl1.cell 3
    have e3 := hl1.frozen 3
    simp [rdCells] at d3
    clear hg1 hg2 hown1 hr1 hk1 hl1 c0 c3 f0 f3
    go_wp2_with fail
    go_end0
    exact ⟨rfl, HR.out, (HK.out.trans HK1.out).put 3 _⟩
set_option maxRecDepth 100000 in
set_option maxHeartbeats 1600000 in
theorem digit_mid (r : Rd) (c b base : Nat) (w : World) (h1 : 48 ≤ c) (h2 : c ≤ 57) (h : RdIn w b base r) (hb : b < base) (hbs : base ≤ w.heap.size) (hs : r.st = 3 ∨ r.st = 4) (hf : r.Fit) :
    Calls Tryd.prog 138 #[.pointer (some ⟨b, 0, none⟩), .int .i32 (c : Int)] w fun e w' => e = .returned (.tuple #[]) ∧ RdIn w' b base (r.digit (c - 48)) ∧ Kept b base w w' := by
  obtain ⟨i0, hi, hz0, hz1, hz2⟩ := info_parts infoU8
  have hD : r.digit (c - 48) = { r with st := 4, ds := r.ds ++ [c - 48], behind := r.behind + 1 } := by unfold Rd.digit; rw [if_neg (by omega), if_pos (by omega)]
  rw [hD]
  clear hD
  obtain ⟨v, hl, hown⟩ := h
  obtain ⟨st, ng, np, ds, bh, pw⟩ := r
  have hlen := hf.ds
  have hbh := hf.behind
  dsimp only at hs hlen hbh hown hl ⊢
  have c0 := hl.cell 0
  have c3 := hl.cell 3
  have c4 := hl.cell 4
  have f4 := hl.frozen 4
  have f0 := hl.frozen 0
  have f3 := hl.frozen 3
  simp [rdCells] at c0 c3 c4
  have HL : Hid (Lies ((w.setCell ⟨b, 0, none⟩ (.int .i64 4)).setCell ⟨b, 4, none⟩ (.int .i64 ((bh + 1 : Nat) : Int))) b 115 (rdCells ⟨4, ng, np, ds, bh + 1, pw⟩ v)) := Lib.hid ((hl.put 0 (.int .i64 4)).put 4 (.int .i64 ((bh + 1 : Nat) : Int)))
  have HO := Lib.hid (ownsRow_setCell_below (ownsRow_setCell_below hown (a := ⟨b, 0, none⟩) hb (.int .i64 4)) (a := ⟨b, 4, none⟩) hb (.int .i64 ((bh + 1 : Nat) : Int)))
  have HK := Lib.hid (((Kept.refl b base w).put 0 (.int .i64 4)).put 4 (.int .i64 ((bh + 1 : Nat) : Int)))
  have hv1 : IntKind.i32.wrap ((c : Int) - 48) = (c : Int) - 48 := by simp [IntKind.wrap, IntKind.bits, IntKind.signed]; omega
  have hv2 : IntKind.u8.wrap ((c : Int) - 48) = (c : Int) - 48 := by simp [IntKind.wrap, IntKind.bits, IntKind.signed]; omega
  have HV : Hid ((((c - 48 : Nat) : Nat) : Int) = (c : Int) - 48) := Lib.hid (by omega)
  clear hf hl hown
  rcases hs with rfl | rfl
  all_goals
    go_enter Tryd.func138, Tryd.ntmps138
    go_wp2_with (at_builtin; refine wpList_append_own _ rfl (.tmp 52) (.tmp 56) 36 rfl base 5 i0 (.int .u8 0) 1 1 Tryd.underlying36 hi hz0 hz1 hz2 rfl (by decide) v ds.length (ds.map byteV) rfl (HO.out.alloc _) ⟨w.heap.size, 0, none⟩ 1 1 [byteV (c - 48)] rfl rfl ?c1 ?c2 ?c3 ?c4 ?c5 ?_)
    case c1 => intro j u hj; unfold byteV at hj; rw [HV.out] at hj; exact one_cell _ _ _ _ j u (by simp) hj
    case c2 => intro u hu; simp at hu; subst hu; rfl
    case c3 => unfold maxLen; omega
    case c4 => omega
    case c5 => simp; omega
    intro v' w1 hown1 hg1 _
    have hg2 : (((w.setCell ⟨b, 0, none⟩ (.int .i64 4)).setCell ⟨b, 4, none⟩ (.int .i64 ((bh + 1 : Nat) : Int))).alloc (.cells #[byteV (c - 48)] 5)).grownBy w1 v.ownBlock := by unfold byteV; rw [HV.out]; exact hg1
    obtain ⟨g, cap, rfl, hl1, hk1, hr1⟩ := digit_rest (r := ⟨4, ng, np, ds, bh + 1, pw⟩) hb (by simpa using hbs) HL.out HO.out hown1 hg2
    have HR := Lib.hid hr1
    have HK1 := Lib.hid hk1
    have d3 := hl1.cell 3
    have e3 := hl1.frozen 3
    simp [rdCells] at d3
    clear hg1 hg2 hown1 hr1 hk1 hl1 c0 c3 c4 f0 f3 f4
    go_wp2_with fail
    go_end0
    exact ⟨rfl, HR.out, (HK.out.trans HK1.out).put 3 _⟩
set_option maxRecDepth 100000 in
set_option maxHeartbeats 1600000 in
theorem digit_high (r : Rd) (c b base : Nat) (w : World) (h1 : 48 ≤ c) (h2 : c ≤ 57) (h : RdIn w b base r) (hb : b < base) (hs : r.st = 5 ∨ r.st = 6 ∨ r.st = 7) (hf : r.Fit) :
    Calls Tryd.prog 138 #[.pointer (some ⟨b, 0, none⟩), .int .i32 (c : Int)] w fun e w' => e = .returned (.tuple #[]) ∧ RdIn w' b base (r.digit (c - 48)) ∧ Kept b base w w' := by
  have hD : r.digit (c - 48) = { r with st := 7, pow := powStep r.pow (c - 48) } := by unfold Rd.digit; rw [if_neg (by omega), if_neg (by omega)]
  rw [hD]
  clear hD
  obtain ⟨v, hl, hown⟩ := h
  obtain ⟨st, ng, np, ds, bh, pw⟩ := r
  have hpw := hf.pow
  dsimp only at hs hpw hown hl ⊢
  have c0 := hl.cell 0
  have c5 := hl.cell 5
  have f0 := hl.frozen 0
  have f5 := hl.frozen 5
  simp [rdCells] at c0 c5
  have HL := Lib.hid hl
  have HO := Lib.hid hown
  have hv1 : IntKind.i32.wrap ((c : Int) - 48) = (c : Int) - 48 := by simp [IntKind.wrap, IntKind.bits, IntKind.signed]; omega
  clear hf hl hown
  obtain ⟨p, hpp⟩ : ∃ p : Int, (pw : Int) = p := ⟨_, rfl⟩
  have hp0 : 0 ≤ p := by omega
  have hp1 : p ≤ 2000000 := by omega
  rw [hpp] at c5
  have HPP := Lib.hid hpp
  clear hpp hpw
  by_cases hp : p < 100000
  · have HP : Hid (((powStep pw (c - 48) : Nat) : Int) = p * 10 + ((c : Int) - 48)) := Lib.hid (by have := HPP.out; unfold powStep; rw [if_pos (by omega)]; omega)
    rcases hs with rfl | rfl | rfl
    all_goals
      go_enter Tryd.func138, Tryd.ntmps138
      go_wp2_with fail
      refine bodyPost_ret (v := .tuple #[]) (by simp [results, Tryd.results138, go_sem]) rfl ?_
      refine ⟨rfl, ⟨v, ?_, ownsRow_setCell_below (ownsRow_setCell_below HO.out (a := ⟨b, 0, none⟩) hb _) (a := ⟨b, 5, none⟩) hb _⟩, ((Kept.refl b base w).put 0 _).put 5 _⟩
      have := (HL.out.put 0 (.int .i64 7)).put 5 (.int .i64 ((powStep pw (c - 48) : Nat) : Int))
      rw [HP.out] at this
      show Lies _ b _ (#[.int .i64 7, .bool ng, .bool np, v, .int .i64 bh, .int .i64 ((powStep pw (c - 48) : Nat) : Int)])
      rw [HP.out]
      exact this
  · have HP : Hid (powStep pw (c - 48) = pw) := Lib.hid (by have := HPP.out; unfold powStep; rw [if_neg (by omega)])
    rcases hs with rfl | rfl | rfl
    all_goals
      go_enter Tryd.func138, Tryd.ntmps138
      go_wp2_with fail
      refine bodyPost_ret (v := .tuple #[]) (by simp [results, Tryd.results138, go_sem]) rfl ?_
      refine ⟨rfl, ⟨v, ?_, ownsRow_setCell_below HO.out (a := ⟨b, 0, none⟩) hb _⟩, (Kept.refl b base w).put 0 _⟩
      rw [HP.out]
      exact HL.out.put 0 (.int .i64 7)
theorem digit_any (r : Rd) (c b base : Nat) (w : World) (h1 : 48 ≤ c) (h2 : c ≤ 57) (h : RdIn w b base r) (hb : b < base) (hbs : base ≤ w.heap.size) (hf : r.Fit) :
    Calls Tryd.prog 138 #[.pointer (some ⟨b, 0, none⟩), .int .i32 (c : Int)] w fun e w' => e = .returned (.tuple #[]) ∧ RdIn w' b base (r.digit (c - 48)) ∧ Kept b base w w' := by
  have := hf.st
  rcases (by omega : r.st ≤ 2 ∨ (r.st = 3 ∨ r.st = 4) ∨ (r.st = 5 ∨ r.st = 6 ∨ r.st = 7)) with hs | hs | hs
  · exact digit_low r c b base w h1 h2 h hb hbs hs hf
  · exact digit_mid r c b base w h1 h2 h hb hbs hs hf
  · exact digit_high r c b base w h1 h2 h hb hs hf
end Go.Proofs.YtcgdeoldgnjdeaaDoor
