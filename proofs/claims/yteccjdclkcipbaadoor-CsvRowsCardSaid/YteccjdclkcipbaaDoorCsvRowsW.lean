/-
  counterpanelaw32.CsvRows: the walk.
-/
import Derived.Test.YteccjdclkcipbaaDoorCsv9
import Derived.Test.YteccjdclkcipbaaDoorCsv11
import Derived.Test.YteccjdclkcipbaaDoorCsv16
import Derived.Test.YteccjdclkcipbaaDoorCsv19
import Derived.Test.YteccjdclkcipbaaDoorOrdIn
import Derived.Sort.CutIn
namespace Go.Proofs.YteccjdclkcipbaaDoor
open Go.RowKit Go.Shelf
attribute [local go_sem] Oper.semAt_some

theorem eqIn_func {P : Program} (d : Nat) (t : TypeId) (ps rs : Array TypeId) (va : Bool) (fn : Fn) (x y : Array Value) (w : World) (h : P.underlying t = some (.func ps rs va)) : (Op.equalIn (d + 1) t (.func fn x y) .nilFunc).run P w = .ok false w := by
  simp [Op.equalIn, run_underlying h]
theorem eq_func {P : Program} (t : TypeId) (ps rs : Array TypeId) (va : Bool) (fn : Fn) (x y : Array Value) (w : World) (h : P.underlying t = some (.func ps rs va)) : (Op.equal t (.func fn x y) .nilFunc).run P w = .ok false w := eqIn_func 9999 t ps rs va fn x y w h
theorem u_seq : Tryd.prog.underlying 63 = some (.func #[121] #[] false) := by kernel_rfl
theorem nil_func (f : Nat) (b : Array Value) (X : World) : Sem.run Tryd.prog (binOp BinOp.eql 63 (.func (.func f) #[] b) Value.nilFunc) X = .ok (.bool false) X := by
  simp only [binOp]
  simp [eq_func _ _ _ _ (.func f) #[] b X u_seq]
theorem grown_on {X A B : World} {k : Nat} {row : Option Nat} (h : X.grownBy A (some k)) (hg : A.grownBy B row) (hr : ∀ r, row = some r → X.heap.size ≤ r) : X.grownBy B (some k) :=
  ⟨hg.os.trans h.os, hg.tape.trans h.tape, hg.output.trans h.output, Nat.le_trans h.size hg.size, fun j hj hne => (hg.block j (Nat.lt_of_lt_of_le hj h.size) (fun e => by have := hr j e.symm; omega)).trans (h.block j hj hne)⟩
theorem grown_set {X A : World} {k : Nat} (h : X.grownBy A (some k)) (i : Nat) (v : Value) : X.grownBy (A.setCell ⟨k, i, none⟩ v) (some k) :=
  ⟨h.os, h.tape, h.output, by rw [World.size_setCell]; exact h.size, fun j hj hne => (heap_setCell_other A ⟨k, i, none⟩ j v (fun e => hne (by rw [e]))).trans (h.block j hj hne)⟩
theorem grown_below {b k : Nat} {w X A : World} (hb : Below b w X) (hk : b ≤ k) (hX : b ≤ X.heap.size) (h : X.grownBy A (some k)) : Below b w A := by
  exact ⟨h.os.trans hb.os, h.tape.trans hb.tape, h.output.trans hb.output, Nat.le_trans hb.size h.size, fun j hj => (h.block j (by omega) (fun e => by cases e; omega)).trans (hb.block j hj)⟩
/-- a mark among a frame's deferred calls -/
abbrev colD (d : Nat) : Deferred := { target := .collected d, args := #[] }
/-- leaving over marks -/
theorem leaves_marks {F : Fence} {n : Nat} {P : Program} {fn : Func} {tmps : Array Value} {R : Ending → World → Prop} {b : Nat} : ∀ (ds : List Nat) (W : World), ds.Nodup → (∀ d ∈ ds, b ≤ d ∧ W.heap[d]? = some (.deferred (some []))) → (∀ W', Below b W W' → LeavesInM F n P fn tmps R [] .returning W') → LeavesInM F n P fn tmps R (ds.map colD) .returning W
  | [], W, _, _, h => h W (Below.refl _ _)
  | d :: ds, W, hn, hd, h => by
    obtain ⟨h1, h2⟩ := hd d (List.mem_cons_self ..)
    rw [List.nodup_cons] at hn
    have hlt : d < W.heap.size := (Array.getElem?_eq_some_iff.1 h2).1
    have hg := grownBy_putObj' W d (.deferred none)
    have hb : Below b W (W.putObj d (.deferred none)) := ⟨hg.os, hg.tape, hg.output, hg.size, fun j hj => World.putObj_heap_other (by omega)⟩
    refine ⟨by simp, .inl ⟨d, _, rfl, run_takeDeferred h2, leaves_marks ds _ hn.2 (fun e he => ?_) (fun W' hW => h W' (hb.trans hW))⟩⟩
    obtain ⟨k1, k2⟩ := hd e (List.mem_cons_of_mem _ he)
    refine ⟨k1, (World.putObj_heap_other (fun h => ?_)).trans k2⟩
    subst h
    exact hn.1 he
/-- what holds at the head of the outer loop -/
structure RwO (W5 : World) (c8 r : Nat) (ds : List Nat) (X : World) : Prop where
  bel : Below W5.heap.size W5 X
  ge : W5.heap.size ≤ c8
  rc : Lies X c8 3 #[.int .i64 (r : Int)]
  marks : ∀ d ∈ ds, W5.heap.size ≤ d ∧ X.heap[d]? = some (.deferred (some []))
  nd : ds.Nodup
theorem RwO.step {W5 X1 Y : World} {kb r D : Nat} {ds : List Nat} (hb : Below W5.heap.size W5 X1) (hd : ∀ d ∈ ds, W5.heap.size ≤ d ∧ d < kb ∧ X1.heap[d]? = some (.deferred (some []))) (hn : ds.Nodup) (hkb : kb < X1.heap.size) (hkW : W5.heap.size ≤ kb)
    (hg : X1.grownBy Y (some kb)) (hD : X1.heap.size ≤ D) (hK : Y.heap[D]? = some (.deferred (some []))) : RwO W5 Y.heap.size (r + 1) (D :: ds) (Y.alloc (.cells #[.int .i64 ((r + 1 : Nat) : Int)] 3)) := by
  have h1 := grown_below hb hkW hb.size hg
  have hDY : D < Y.heap.size := (Array.getElem?_eq_some_iff.1 hK).1
  refine ⟨h1.alloc h1.size _, h1.size, Lies.new Y 3 #[.int .i64 ((r + 1 : Nat) : Int)], fun d hm => ?_, ?_⟩
  · have key : ∀ d, d < Y.heap.size → Y.heap[d]? = some (.deferred (some [])) → (Y.alloc (.cells #[.int .i64 ((r + 1 : Nat) : Int)] 3)).heap[d]? = some (.deferred (some [])) := fun d h2 h3 => (Below.heap_alloc Y _ d h2).trans h3
    rcases List.mem_cons.1 hm with rfl | hm
    · exact ⟨by have := hb.size; omega, key _ hDY hK⟩
    · obtain ⟨k1, k2, k3⟩ := hd d hm
      exact ⟨k1, key d (by have := hg.size; omega) ((hg.block d (by omega) (fun e => by cases e; omega)).trans k3)⟩
  · rw [List.nodup_cons]
    refine ⟨fun hm => ?_, hn⟩
    have := (hd D hm).2.1
    omega
/-- what holds within a range over the rows -/
def RwI (X1 : World) (kb r u0 : Nat) (pre : List LX) (Y : World) : Prop := X1.grownBy Y (some kb) ∧ Lies Y kb 3 #[.int .i64 (pre.length : Int)] ∧ (r = 0 → pre.length ≤ u0)
def RwX (X1 : World) (kb r : Nat) (c : Code) (_ : List LX) (Y : World) : Prop := c = .exit 2 ∧ r = 0 ∧ X1.grownBy Y (some kb)
theorem RwI.own {X1 : World} {kb r u0 : Nat} (hk : kb < X1.heap.size) : OwnTo X1.heap.size (X1.heap.size + 2) 3 (RwI X1 kb r u0) := by
  rintro pre A B row ⟨h1, h2, h3⟩ hg hr
  have hge : ∀ r, row = some r → X1.heap.size ≤ r := fun r e => (hr r e).1
  exact ⟨grown_on h1 hg hge, h2.grown hg (fun e => by have := hge kb e.symm; omega), h3⟩
theorem RwX.own {X1 : World} {kb r : Nat} (c : Code) : OwnTo X1.heap.size (X1.heap.size + 2) 3 (RwX X1 kb r c) := by
  rintro pre A B row ⟨h1, h2, h3⟩ hg hr
  exact ⟨h1, h2, grown_on h3 hg (fun r e => (hr r e).1)⟩
theorem RwI.add {X1 Y wr : World} {kb r u0 k : Nat} {pre : List LX} {x : LX} (hg : X1.grownBy Y (some kb)) (hl : Lies Y kb 3 #[.int .i64 (k : Int)]) (hk : pre.length = k) (hb : Below Y.heap.size Y wr) (hf : r = 0 → k + 1 ≤ u0) : RwI X1 kb r u0 (pre ++ [x]) (wr.setCell ⟨kb, 0, none⟩ (.int .i64 ((k : Int) + 1))) := by
  refine ⟨grown_set (grown_on hg (below_grown hb) (fun r e => by cases e)) 0 _, ?_, fun h => by rw [List.length_append, hk]; exact hf h⟩
  have h := (hl.next hb).put 0 (.int .i64 ((k : Int) + 1))
  rw [List.length_append, hk]
  exact h
theorem keeps_add {Y wr : World} {kb b k : Nat} {n₀ : Addr → Prop} (hb : Below Y.heap.size Y wr) (hkb : kb < b) (hY : b + 2 + 3 ≤ Y.heap.size) (hn : ∀ p, n₀ p → p.block < kb) :
    KeepsFar b Y (wr.setCell ⟨kb, 0, none⟩ (.int .i64 ((k : Int) + 1))) ∧ KeepsAt (KAnd n₀ (b + 2) 3) Y (wr.setCell ⟨kb, 0, none⟩ (.int .i64 ((k : Int) + 1))) := by
  have hg : Y.grownBy (wr.setCell ⟨kb, 0, none⟩ (.int .i64 ((k : Int) + 1))) (some kb) := grown_set ⟨hb.os, hb.tape, hb.output, hb.size, fun j hj _ => hb.block j hj⟩ 0 _
  have key : ∀ p, KAnd n₀ (b + 2) 3 p → (wr.setCell ⟨kb, 0, none⟩ (.int .i64 ((k : Int) + 1))).heap[p.block]? = Y.heap[p.block]? := fun p hp => by
    rcases hp with hp | hp
    · have := hn p hp
      exact hg.block p.block (by omega) (fun e => by cases e; omega)
    · exact hg.block p.block (by omega) (fun e => by cases e; omega)
  exact ⟨KeepsFar.grown hg (fun r e => by cases e; exact .inl hkb), hg.size, fun p hp => World.cell?_of_block (key p hp), fun p hp => World.frozen?_of_block (key p hp)⟩
theorem prefix_row {rows : List (List Bs)} {pre : List LX} {x : LX} (h : (pre ++ [x]).map LX.ws <+: rows) : ∃ h : pre.length < rows.length, rows[pre.length] = x.ws := by
  obtain ⟨t, rfl⟩ := h
  rw [List.map_append, List.append_assoc]
  refine ⟨by simp, ?_⟩
  rw [List.getElem_append_right (by simp)]
  simp
def tab21 (va vi pa st vb vk pb vc pc : Value) : List (Nat × Nat × Value) := [(0, 60, va), (1, 61, vi), (2, 62, pa), (3, 63, st), (4, 64, vb), (5, 65, vk), (6, 66, pb), (7, 67, vc), (8, 68, vi), (9, 69, pc), (10, 70, st), (11, 71, .bool false)]
theorem tab21_eq {va vi pa st vb vk pb vc pc : Value} {Z : Nat × Nat × Value → Prop} (h : Z (0, 60, va) ∧ Z (1, 61, vi) ∧ Z (2, 62, pa) ∧ Z (3, 63, st) ∧ Z (4, 64, vb) ∧ Z (5, 65, vk) ∧ Z (6, 66, pb) ∧ Z (7, 67, vc) ∧ Z (8, 68, vi) ∧ Z (9, 69, pc) ∧ Z (10, 70, st) ∧ Z (11, 71, .bool false)) : ∀ e ∈ tab21 va vi pa st vb vk pb vc pc, Z e := by
  intro e he
  simp only [tab21, List.mem_cons, List.not_mem_nil, or_false] at he
  obtain ⟨h0, h1, h2, h3, h4, h5, h6, h7, h8, h9, h10, h11⟩ := h
  rcases he with rfl | rfl | rfl | rfl | rfl | rfl | rfl | rfl | rfl | rfl | rfl | rfl <;> assumption
abbrev slots21 : List Nat := [60, 61, 62, 63, 64, 65, 66, 67, 68, 69, 70, 71]
set_option maxRecDepth 100000 in
theorem fr_ex (a0 a1 a2 a3 a4 a5 a6 a7 a8 a9 a10 a11 a12 a13 a14 a15 a16 a17 a18 a19 a20 a21 a22 a23 a24 a25 a26 a27 a28 a29 a30 a31 a32 a33 a34 a35 a36 a37 a38 a39 a40 a41 a42 a43 a44 a45 a46 a47 a48 a49 a50 a51 a52 a53 a54 a55 a56 a57 a58 a59 a60 a61 a62 a63 a64 a65 a66 a67 a68 a69 a70 a71 a72 a73 a74 a75 a76 a77 a78 a79 a80 a81 a82 a83 a84 a85 a86 a87 a88 a89 a90 : Value) (D : List Deferred) : ∃ u : Nat → Value, ({ tmps := #[a0, a1, a2, a3, a4, a5, a6, a7, a8, a9, a10, a11, a12, a13, a14, a15, a16, a17, a18, a19, a20, a21, a22, a23, a24, a25, a26, a27, a28, a29, a30, a31, a32, a33, a34, a35, a36, a37, a38, a39, a40, a41, a42, a43, a44, a45, a46, a47, a48, a49, a50, a51, a52, a53, a54, a55, a56, a57, a58, a59, a60, a61, a62, a63, a64, a65, a66, a67, a68, a69, a70, a71, a72, a73, a74, a75, a76, a77, a78, a79, a80, a81, a82, a83, a84, a85, a86, a87, a88, a89, a90], defers := D } : Act) = { tmps := #[a0, a1, u 2, a3, a4, a5, u 6, a7, a8, u 9, u 10, u 11, u 12, u 13, u 14, u 15, u 16, u 17, u 18, u 19, u 20, u 21, u 22, u 23, u 24, u 25, u 26, u 27, u 28, u 29, u 30, u 31, u 32, u 33, u 34, u 35, u 36, u 37, u 38, u 39, u 40, u 41, u 42, u 43, u 44, u 45, u 46, u 47, u 48, u 49, u 50, u 51, u 52, u 53, u 54, u 55, u 56, u 57, u 58, u 59, u 60, u 61, u 62, u 63, u 64, u 65, u 66, u 67, u 68, u 69, u 70, u 71, u 72, u 73, u 74, u 75, u 76, u 77, u 78, u 79, u 80, u 81, u 82, u 83, u 84, u 85, u 86, u 87, u 88, u 89, u 90], defers := D } :=
  ⟨fun k => (#[a0, a1, a2, a3, a4, a5, a6, a7, a8, a9, a10, a11, a12, a13, a14, a15, a16, a17, a18, a19, a20, a21, a22, a23, a24, a25, a26, a27, a28, a29, a30, a31, a32, a33, a34, a35, a36, a37, a38, a39, a40, a41, a42, a43, a44, a45, a46, a47, a48, a49, a50, a51, a52, a53, a54, a55, a56, a57, a58, a59, a60, a61, a62, a63, a64, a65, a66, a67, a68, a69, a70, a71, a72, a73, a74, a75, a76, a77, a78, a79, a80, a81, a82, a83, a84, a85, a86, a87, a88, a89, a90] : Array Value).getD k undef, rfl⟩
set_option maxRecDepth 100000 in
set_option maxHeartbeats 6400000 in
theorem csvRows_any (s : Bs) (u0 : Nat) (w : World) (hu : u0 ≤ 255) (hl : s.length ≤ 2000) (hT : Tab w) (hP : PowTab w) (hm : MaxVar w) :
    Calls Tryd.prog 9 #[.string ⟨s.toArray⟩, .int .u8 (u0 : Int)] w fun e w' => e = .returned (.bool true) ∧ Below w.heap.size w w' := by
  refine (callsIn_wide (n := 10)).1 ?_
  have C0 := Lib.hid (fun X a b c => (callsIn_wide (n := 9)).2 (awake32_any X a b c))
  have C1 := Lib.hid (fun X => (callsIn_wide (n := 9)).2 (rrows32_any s X (by omega)))
  have C2 := Lib.hid (fun X => (callsIn_wide (n := 9)).2 (rows_any s X))
  have HT := Lib.hid hT
  have HP := Lib.hid hP
  have HM := Lib.hid hm
  clear hT hP hm
  refine callsIn_of_wp_marks Tryd.func9 rfl trivial ?_ rfl
  simp only [Tryd.ntmps9, List.size_toArray, List.length_cons, List.length_nil, Nat.reduceAdd, Nat.reduceSub, Array.replicate_succ, Array.replicate_zero, List.push_toArray, List.append_toArray, List.nil_append, List.cons_append]
  gi_wp2_with fail
  have HB0 : Hid (Below w.heap.size w ((w.alloc (.cells #[.int .u8 (u0 : Int)] 5)).alloc (.cells #[.bool false] 4))) := Lib.hid (((Below.refl _ w).alloc (Nat.le_refl _) _).alloc (by simp only [World.size_alloc]; omega) _)
  have c0 : ((w.alloc (.cells #[.int .u8 (u0 : Int)] 5)).alloc (.cells #[.bool false] 4)).cell? ⟨w.heap.size, 0, none⟩ = some (.int .u8 (u0 : Int)) := by simp [go_sem]
  have c1 : ((w.alloc (.cells #[.int .u8 (u0 : Int)] 5)).alloc (.cells #[.bool false] 4)).cell? ⟨w.heap.size + 1, 0, none⟩ = some (.bool false) := by simp [go_sem]
  have f1 : ((w.alloc (.cells #[.int .u8 (u0 : Int)] 5)).alloc (.cells #[.bool false] 4)).frozen? ⟨w.heap.size + 1, 0, none⟩ = false := by simp [go_sem]
  have hz : ((w.alloc (.cells #[.int .u8 (u0 : Int)] 5)).alloc (.cells #[.bool false] 4)).heap.size = w.heap.size + 2 := by simp
  generalize (w.alloc (.cells #[.int .u8 (u0 : Int)] 5)).alloc (.cells #[.bool false] 4) = W1 at *
  refine ⟨trivial, ?_⟩
  refine (C0.out _ (HT.out.next HB0.out) (HP.out.next HB0.out) (HM.out.next HB0.out)).mono ?_
  rintro e w1 ⟨rfl, hb⟩
  have a0 := Lib.hid ((hb.cell (p := ⟨w.heap.size, 0, none⟩) (by dsimp only; omega)).trans c0)
  have a1 := Lib.hid ((hb.cell (p := ⟨w.heap.size + 1, 0, none⟩) (by dsimp only; omega)).trans c1)
  have b1 := Lib.hid ((hb.frozen (p := ⟨w.heap.size + 1, 0, none⟩) (by dsimp only; omega)).trans f1)
  have hz1 := Lib.hid (hz ▸ hb.size)
  have HB1 := Lib.hid (HB0.out.trans (hb.mono HB0.out.size))
  clear hb c0 c1 f1 HB0 C0 hz
  gi_wp2_with fail
  refine ⟨trivial, ?_⟩
  refine (C1.out _).mono ?_
  rintro e w2 ⟨v, rfl, hrows, hb⟩
  obtain ⟨vs, hvl, hvo, hvr⟩ := hrows
  obtain ⟨A, cap, rfl⟩ := own_slice hvo
  have HRo := Lib.hid hvo
  have HRr := Lib.hid hvr
  have HRl := Lib.hid hvl
  clear hvo hvr hvl C1
  gi_wp2_with fail
  refine ⟨trivial, ?_⟩
  refine (C2.out _).mono ?_
  rintro e w3 ⟨rfl, rfl⟩
  have A0 := Lib.hid ((hb.cell (p := ⟨w.heap.size, 0, none⟩) (by have := hz1.out; dsimp only; omega)).trans a0.out)
  have A1 := Lib.hid ((hb.cell (p := ⟨w.heap.size + 1, 0, none⟩) (by have := hz1.out; dsimp only; omega)).trans a1.out)
  have F1 := Lib.hid ((hb.frozen (p := ⟨w.heap.size + 1, 0, none⟩) (by have := hz1.out; dsimp only; omega)).trans b1.out)
  have HB2 := Lib.hid (HB1.out.trans (hb.mono HB1.out.size))
  have hzq := Lib.hid (Nat.le_trans hz1.out hb.size)
  clear hb a0 a1 b1 HB1 C2 hz1
  have hnil := fun b X => nil_func 72 b X
  gi_wp2_with fail
  generalize hq2 : w2.heap.size = g at *
  obtain ⟨W5, hW5⟩ : ∃ W5, W5 = ((w2.alloc (.cells #[.slice A (cRows s []).1.length cap] 59)).alloc (.cells #[.string ⟨s.toArray⟩] 9)) := ⟨_, rfl⟩
  have hz5 : W5.heap.size = g + 2 := by rw [hW5]; simp [hq2]
  have hb5 : Below w2.heap.size w2 W5 := by rw [hW5]; exact ((Below.refl _ _).alloc (Nat.le_refl _) _).alloc (by rw [World.size_alloc]; omega) _
  have q5 : W5.cell? ⟨g, 0, none⟩ = some (.slice A (cRows s []).1.length cap) := by
    rw [hW5]
    have h := (Lies.new w2 59 #[.slice A (cRows s []).1.length cap]).alloc (.cells #[.string ⟨s.toArray⟩] 9)
    rw [hq2] at h
    exact h.cell 0
  have q6 : W5.cell? ⟨g + 1, 0, none⟩ = some (.string ⟨s.toArray⟩) := by
    rw [hW5]
    have h := Lies.new (w2.alloc (.cells #[.slice A (cRows s []).1.length cap] 59)) 9 #[.string ⟨s.toArray⟩]
    rw [World.size_alloc, hq2] at h
    exact h.cell 0
  have q3 : W5.cell? ⟨w.heap.size, 0, none⟩ = some (.int .u8 (u0 : Int)) := (hb5.cell (p := ⟨w.heap.size, 0, none⟩) (by have := hzq.out; dsimp only; omega)).trans A0.out
  have q4 : W5.cell? ⟨w.heap.size + 1, 0, none⟩ = some (.bool false) := (hb5.cell (p := ⟨w.heap.size + 1, 0, none⟩) (by have := hzq.out; dsimp only; omega)).trans A1.out
  have qf : W5.frozen? ⟨w.heap.size + 1, 0, none⟩ = false := (hb5.frozen (p := ⟨w.heap.size + 1, 0, none⟩) (by have := hzq.out; dsimp only; omega)).trans F1.out
  have HB5 : Hid (Below w.heap.size w W5) := Lib.hid (HB2.out.trans (hb5.mono HB2.out.size))
  have HRo5 := Lib.hid (own_next hb5 HRo.out)
  have HRr5 := Lib.hid (fun i u r h1 h2 => own_next hb5 (HRr.out i u r h1 h2))
  have HM5 : Hid (MaxVar W5) := Lib.hid (HM.out.next HB5.out)
  have hwg : w.heap.size + 1 < g := by have := hzq.out; omega
  have H0 : Hid (RwO W5 W5.heap.size 0 [] (W5.alloc (.cells #[.int .i64 0] 3))) := Lib.hid ⟨(Below.refl _ _).alloc (Nat.le_refl _) _, Nat.le_refl _, Lies.new _ _ _, fun d hd => by simp at hd, List.nodup_nil⟩
  rw [← hW5]
  have Q3 := Lib.hid q3
  have Q4 := Lib.hid q4
  have Q5 := Lib.hid q5
  have Q6 := Lib.hid q6
  have QF := Lib.hid qf
  have HWl : Hid (∀ l ∈ (cRows s []).1, l.length ≤ 2000) := Lib.hid (fun l hm => Nat.le_trans (cRows_some hm).2.1 hl)
  have hrl : (cRows s []).1.length ≤ 2000 := by have := cRows_len s.length s [] (Nat.le_refl _); simp at this; omega
  have hkey : (cRows s []).1 = cRs s := by rw [cRows_rs s.length s [] (Nat.le_refl _), List.nil_append]
  have HKey := Lib.hid hkey
  generalize (cRows s []).2 = ee at *
  generalize (cRows s []).1 = rows at *
  clear hW5 hb5 q3 q4 q5 q6 qf HB2 HRo HRr A0 A1 F1 hnil hzq hq2 hkey
  have e8 : g + 1 + 1 = W5.heap.size := by omega
  rw [e8]
  refine wpIn_loop (fun a' X => ∃ (r : Nat) (ds : List Nat) (c8 : Nat), r ≤ 2 ∧ ds.length = r ∧ Hid (RwO W5 c8 r ds X) ∧ ∃ u : Nat → Value, a' = { tmps := #[.string ⟨s.toArray⟩, .int .u8 (u0 : Int), u 2, .pointer (some ⟨w.heap.size, 0, none⟩), .pointer (some ⟨w.heap.size + 1, 0, none⟩), .pointer (some ⟨g, 0, none⟩), u 6, .func (.func 72) #[] #[.pointer (some ⟨g + 1, 0, none⟩)], .pointer (some ⟨c8, 0, none⟩), u 9, u 10, u 11, u 12, u 13, u 14, u 15, u 16, u 17, u 18, u 19, u 20, u 21, u 22, u 23, u 24, u 25, u 26, u 27, u 28, u 29, u 30, u 31, u 32, u 33, u 34, u 35, u 36, u 37, u 38, u 39, u 40, u 41, u 42, u 43, u 44, u 45, u 46, u 47, u 48, u 49, u 50, u 51, u 52, u 53, u 54, u 55, u 56, u 57, u 58, u 59, u 60, u 61, u 62, u 63, u 64, u 65, u 66, u 67, u 68, u 69, u 70, u 71, u 72, u 73, u 74, u 75, u 76, u 77, u 78, u 79, u 80, u 81, u 82, u 83, u 84, u 85, u 86, u 87, u 88, u 89, u 90], defers := ds.map colD }) (fun a' _ => 2 - a'.defers.length) ?start ?round
  case start => exact ⟨0, [], W5.heap.size, by omega, rfl, H0, by apply fr_ex⟩
  case round =>
    rintro a' X ⟨r, ds, c8, hr, hds, HO, u, rfl⟩
    clear H0
    by_cases hr2 : r < 2
    · have y8 := HO.out.rc.cell 0
      have hltr : ((r : Int) < 2) := by omega
      simp only [List.getElem?_toArray, List.getElem?_cons_zero] at y8
      gi_wp2_with fail
      have hge8 := HO.out.ge
      have hsX := HO.out.bel.size
      obtain ⟨X1, hX1⟩ : ∃ X1, X1 = X.alloc (.cells #[.int .i64 0] 3) := ⟨_, rfl⟩
      have hz1 : X1.heap.size = X.heap.size + 1 := by rw [hX1, World.size_alloc]
      have hbX : Below X.heap.size X X1 := by rw [hX1]; exact (Below.refl _ _).alloc (Nat.le_refl _) _
      have lk : Lies X1 X.heap.size 3 #[.int .i64 0] := by rw [hX1]; exact Lies.new _ _ _
      have HB1 : Hid (Below W5.heap.size W5 X1) := Lib.hid (HO.out.bel.trans (hbX.mono hsX))
      have l8 : Hid (Lies X1 c8 3 #[.int .i64 (r : Int)]) := Lib.hid (HO.out.rc.next hbX)
      have HD : Hid (∀ d ∈ ds, W5.heap.size ≤ d ∧ d < X.heap.size ∧ X1.heap[d]? = some (.deferred (some []))) := Lib.hid (fun d hd => by
        obtain ⟨h1, h2⟩ := HO.out.marks d hd
        have hlt : d < X.heap.size := (Array.getElem?_eq_some_iff.1 h2).1
        exact ⟨h1, hlt, (hbX.block d hlt).trans h2⟩)
      have hlt8 : c8 < X.heap.size := HO.out.rc.lt
      have hnd := HO.out.nd
      rw [← hX1]
      have hGq := maxVar_lt HM5.out
      have q6 : X1.cell? ⟨g + 1, 0, none⟩ = some (.string ⟨s.toArray⟩) := (HB1.out.cell (p := ⟨g + 1, 0, none⟩) (by dsimp only; omega)).trans Q6.out
      have LI := rows1_in 9 (by decide) (g + 1) W5.heap.size s X1 (by omega) (HM5.out.next HB1.out) hGq q6 (by omega) (by omega)
      have hI0 : RwI X1 X.heap.size r u0 [] X1 := ⟨⟨rfl, rfl, rfl, Nat.le_refl _, fun _ _ _ => rfl⟩, lk, fun _ => Nat.zero_le _⟩
      clear hX1 lk hbX HO q6 y8 hltr
      refine wpIn_rangeR rfl (by decide) (gf := 72) (lb := #[.pointer (some ⟨g + 1, 0, none⟩)]) rfl trivial (enters_of Tryd.func72 (by kernel_rfl) rfl) LI
        (fun p h => by rcases h with rfl | rfl <;> (dsimp only; omega))
        (fun pre x A B row h hg hr => ⟨own_other h.1 hg (fun r e => (hr r e).2), h.2⟩)
        (fun _ => rfl)
        (RwI X1 X.heap.size r u0) (RwX X1 X.heap.size r) (RwI.own (by omega)) RwX.own hI0
        (fun x => { tmps := #[.string ⟨s.toArray⟩, .int .u8 (u0 : Int), u 2, .pointer (some ⟨w.heap.size, 0, none⟩), .pointer (some ⟨w.heap.size + 1, 0, none⟩), .pointer (some ⟨g, 0, none⟩), u 6, .func (.func 72) #[] #[.pointer (some ⟨g + 1, 0, none⟩)], .pointer (some ⟨c8, 0, none⟩), .pointer (some ⟨X.heap.size, 0, none⟩), .int .i64 x.er, x.v, u 12, u 13, u 14, u 15, u 16, u 17, u 18, u 19, u 20, u 21, u 22, u 23, u 24, u 25, u 26, .int .i64 (r : Int), .bool true, u 29, u 30, .func (.func 72) #[] #[.pointer (some ⟨g + 1, 0, none⟩)], .int .i64 x.er, x.v, u 34, u 35, u 36, u 37, u 38, u 39, u 40, u 41, u 42, u 43, u 44, u 45, u 46, u 47, u 48, u 49, u 50, u 51, u 52, u 53, u 54, u 55, u 56, u 57, u 58, u 59, u 60, u 61, u 62, u 63, u 64, u 65, u 66, u 67, u 68, u 69, u 70, u 71, u 72, u 73, u 74, u 75, u 76, u 77, u 78, u 79, u 80, u 81, u 82, u 83, u 84, u 85, u 86, u 87, u 88, u 89, u 90], defers := [] }) ?assign ?body ?done ?stop
      case assign =>
        intro l' x Y K hK
        dsimp only [encsR]
        gi_wp2
        exact hK
      case body =>
        rintro l' pre ⟨xv, ws, er⟩ Y hY ⟨hg1, hk, hfew⟩ ⟨hown, hat, hpre⟩
        clear LI hI0
        dsimp only at hown hat
        subst hat
        obtain ⟨hkl, hrow⟩ := prefix_row (rows := rows) (by rw [HKey.out]; exact hpre)
        dsimp only at hrow
        obtain ⟨Ax, cx, rfl⟩ := own_slice hown
        have HBY : Hid (Below W5.heap.size W5 Y) := Lib.hid (grown_below HB1.out hsX HB1.out.size hg1)
        have HG1 := Lib.hid hg1
        have HK := Lib.hid hk
        have L8 : Hid (Lies Y c8 3 #[.int .i64 (r : Int)]) := Lib.hid (l8.out.grown hg1 (fun e => by cases e; omega))
        have HOwX := Lib.hid hown
        have hrl0 : 0 < rows.length := by omega
        obtain ⟨gA, rfl⟩ : ∃ gA, A = some ⟨gA, 0, none⟩ := by
          obtain ⟨g, c, e⟩ := own_form HRo5.out hrl0
          injection e with e
          exact ⟨g, e⟩
        have hvl : pre.length < vs.length := by rw [HRl.out]; exact hkl
        have hok := HRr5.out pre.length vs[pre.length] rows[pre.length] (List.getElem?_eq_getElem hvl) (List.getElem?_eq_getElem hkl)
        rw [hrow] at hok
        obtain ⟨Ak, ck, hvk⟩ := own_slice hok
        rw [hvk] at hok
        have HOwK := Lib.hid (own_next HBY.out hok)
        have HRoY := own_next HBY.out HRo5.out
        have hyr : Y.cell? ⟨gA, pre.length, none⟩ = some (.slice Ak ws.length ck) := by rw [HRoY.cellAt pre.length (by omega), List.getElem?_eq_getElem hvl, hvk]
        have YR := Lib.hid hyr
        have hwl : ws.length ≤ 2000 := HWl.out ws (by rw [← hrow]; exact List.getElem_mem hkl)
        have Y3 := Lib.hid ((HBY.out.cell (p := ⟨w.heap.size, 0, none⟩) (by dsimp only; omega)).trans Q3.out)
        have Y5 := Lib.hid ((HBY.out.cell (p := ⟨g, 0, none⟩) (by dsimp only; omega)).trans Q5.out)
        have hwk : wrap64 ((pre.length : Int) + 1) = (pre.length : Int) + 1 := wrap_s _ (by omega)
        have hfew2 := Lib.hid hfew
        have hltg : gA < Y.heap.size := (HRoY.lt gA rfl).2
        obtain ⟨k, hkd⟩ : ∃ k, pre.length = k := ⟨_, rfl⟩
        rw [hkd] at hkl hyr hwk YR hfew2 HK
        clear hg1 hk hfew hown hpre hok hvk HRoY hvl hrow hyr
        have y5 := Y5.out
        have y9 : Y.cell? ⟨X.heap.size, 0, none⟩ = some (.int .i64 (k : Int)) := HK.out.cell 0
        have yr := YR.out
        have hkd2 : ((pre.length + 1 : Nat) : Int) = (k : Int) + 1 := by rw [hkd]; simp
        dsimp only
        rw [hkd2]
        gi_wp2_with fail
        gi_loopw [12] (fun v wr => ∃ i : Nat, v = .int .i64 (i : Int) ∧ i ≤ ws.length ∧ Hid (Below Y.heap.size Y wr)) (fun v _ => ws.length - (intOf v).toNat)
        case atStart => exact ⟨0, rfl, Nat.zero_le _, Lib.hid (Below.refl _ _)⟩
        case round =>
          obtain ⟨i, rfl, hi, hbr⟩ := hrel
          by_cases hlt : i < ws.length
          · obtain ⟨gx, rfl⟩ : ∃ gx, Ax = some ⟨gx, 0, none⟩ := by
              obtain ⟨g, c, e⟩ := own_form HOwX.out (by omega)
              injection e with e
              exact ⟨g, e⟩
            obtain ⟨gk, rfl⟩ : ∃ gk, Ak = some ⟨gk, 0, none⟩ := by
              obtain ⟨g, c, e⟩ := own_form HOwK.out (by omega)
              injection e with e
              exact ⟨g, e⟩
            have zx : wr.cell? ⟨gx, i, none⟩ = some (.string ⟨(ws[i]).toArray⟩) := by
              rw [(own_next hbr.out HOwX.out).cellAt i (by omega), List.getElem?_map, List.getElem?_eq_getElem hlt]
              rfl
            have zk : wr.cell? ⟨gk, i, none⟩ = some (.string ⟨(ws[i]).toArray⟩) := by
              rw [(own_next hbr.out HOwK.out).cellAt i (by omega), List.getElem?_map, List.getElem?_eq_getElem hlt]
              rfl
            have z5 := (hbr.out.cell (p := ⟨g, 0, none⟩) (by have := HBY.out.size; dsimp only; omega)).trans Y5.out
            have z9 : wr.cell? ⟨X.heap.size, 0, none⟩ = some (.int .i64 (k : Int)) := (HK.out.next hbr.out).cell 0
            have zr := (hbr.out.cell (p := ⟨gA, k, none⟩) hltg).trans YR.out
            clear y5 y9 yr hwk hkd2 hkd
            gi_wp2_with fail
            gi_cut [71] from 91 (fun v wx => v = .bool false ∧ Hid (Below Y.heap.size Y wx))
            case first =>
              refine wpIn_region_inv' (by kernel_rfl) (by kernel_rfl) (fun a0 => 71 < a0.tmps.size ∧ a0.eval (.tmp 5) = .pointer (some ⟨g, 0, none⟩) ∧ a0.eval (.tmp 9) = .pointer (some ⟨X.heap.size, 0, none⟩) ∧ a0.eval (.tmp 11) = .slice (some ⟨gx, 0, none⟩) ws.length cx ∧ a0.eval (.tmp 12) = .int .i64 (i : Int)) (RdI slots21 (tab21 (.slice (some ⟨gx, 0, none⟩) ws.length cx) (.int .i64 (i : Int)) (.pointer (some ⟨gx, i, none⟩)) (.string ⟨(ws[i]).toArray⟩) (.slice (some ⟨gA, 0, none⟩) rows.length cap) (.int .i64 (k : Int)) (.pointer (some ⟨gA, k, none⟩)) (.slice (some ⟨gk, 0, none⟩) ws.length ck) (.pointer (some ⟨gk, i, none⟩))) wr.drew) ⟨by simp, rfl, rfl, rfl, rfl⟩ (RdI.start _ _) ?_ ?_
              · rintro a0 ⟨hs, h5, h9, h11, h12⟩ listed a1 wq j o hsz hI hun ho hdeps
                have hj := Up.of_false hun
                have hj12 : j < 12 := by rw [hsz] at hj; exact hj
                obtain rfl := hI.eq
                replace z5 : wr.drew.cell? ⟨g, 0, none⟩ = _ := z5
                replace z9 : wr.drew.cell? ⟨X.heap.size, 0, none⟩ = _ := z9
                replace zx : wr.drew.cell? ⟨gx, i, none⟩ = _ := zx
                replace zk : wr.drew.cell? ⟨gk, i, none⟩ = _ := zk
                replace zr : wr.drew.cell? ⟨gA, k, none⟩ = _ := zr
                have e5 : a1.eval (.tmp 5) = .pointer (some ⟨g, 0, none⟩) := (hI.off.eval (by decide)).trans h5
                have e9 : a1.eval (.tmp 9) = .pointer (some ⟨X.heap.size, 0, none⟩) := (hI.off.eval (by decide)).trans h9
                have e11 : a1.eval (.tmp 11) = .slice (some ⟨gx, 0, none⟩) ws.length cx := (hI.off.eval (by decide)).trans h11
                have e12 : a1.eval (.tmp 12) = .int .i64 (i : Int) := (hI.off.eval (by decide)).trans h12
                clear h5 h9 h11 h12
                rcases (by omega : j = 0 ∨ j = 1 ∨ j = 2 ∨ j = 3 ∨ j = 4 ∨ j = 5 ∨ j = 6 ∨ j = 7 ∨ j = 8 ∨ j = 9 ∨ j = 10 ∨ j = 11) with rfl | rfl | rfl | rfl | rfl | rfl | rfl | rfl | rfl | rfl | rfl | rfl
                · have ho2 := ho
                  simp only [List.getElem?_toArray, List.getElem?_cons_zero, Option.some.injEq] at ho2
                  subst ho2
                  exact rdi_op (.slice (some ⟨gx, 0, none⟩) ws.length cx) hI hun ho rfl rfl (by omega) (by decide) (tab21_eq (by simp)) (tab21_eq (by simp)) (by intro c h; cases h) (by simp [Oper.about]) (by simp [execOp, go_sem, tget e11])
                · have ho2 := ho
                  simp only [List.getElem?_toArray, List.getElem?_cons_zero, List.getElem?_cons_succ, Option.some.injEq] at ho2
                  subst ho2
                  exact rdi_op (.int .i64 (i : Int)) hI hun ho rfl rfl (by omega) (by decide) (tab21_eq (by simp)) (tab21_eq (by simp)) (by intro c h; cases h) (by simp [Oper.about]) (by simp [execOp, go_sem, tget e12])
                · have ho2 := ho
                  simp only [List.getElem?_toArray, List.getElem?_cons_zero, List.getElem?_cons_succ, Option.some.injEq] at ho2
                  subst ho2
                  have d0 := hdeps _ (List.mem_toArray.2 (List.mem_cons_self ..)) rfl
                  have p60 : a1.eval (.tmp 60) = (.slice (some ⟨gx, 0, none⟩) ws.length cx) := hI.pt (0, 60, (.slice (some ⟨gx, 0, none⟩) ws.length cx)) (by simp [tab21]) d0
                  have d1 := hdeps _ (List.mem_toArray.2 (List.mem_cons_of_mem _ (List.mem_cons_self ..))) rfl
                  have p61 : a1.eval (.tmp 61) = (.int .i64 (i : Int)) := hI.pt (1, 61, (.int .i64 (i : Int))) (by simp [tab21]) d1
                  exact rdi_op (.pointer (some ⟨gx, i, none⟩)) hI hun ho rfl rfl (by omega) (by decide) (tab21_eq (by simp)) (tab21_eq (by simp)) (by intro c h; cases h) (by simp [Oper.about]) (by simp [execOp, go_sem, tget p60, tget p61]; exact fun h => absurd hlt (Nat.not_lt.2 h))
                · have ho2 := ho
                  simp only [List.getElem?_toArray, List.getElem?_cons_zero, List.getElem?_cons_succ, Option.some.injEq] at ho2
                  subst ho2
                  have d0 := hdeps _ (List.mem_toArray.2 (List.mem_cons_self ..)) rfl
                  have p62 : a1.eval (.tmp 62) = (.pointer (some ⟨gx, i, none⟩)) := hI.pt (2, 62, (.pointer (some ⟨gx, i, none⟩))) (by simp [tab21]) d0
                  exact rdi_op (.string ⟨(ws[i]).toArray⟩) hI hun ho rfl rfl (by omega) (by decide) (tab21_eq (by simp)) (tab21_eq (by simp)) (by intro c h; cases h) (by simp [Oper.about]) (by simp [execOp, go_sem, tget p62, zx])
                · have ho2 := ho
                  simp only [List.getElem?_toArray, List.getElem?_cons_zero, List.getElem?_cons_succ, Option.some.injEq] at ho2
                  subst ho2
                  exact rdi_op (.slice (some ⟨gA, 0, none⟩) rows.length cap) hI hun ho rfl rfl (by omega) (by decide) (tab21_eq (by simp)) (tab21_eq (by simp)) (by intro c h; cases h) (by simp [Oper.about]) (by simp [execOp, go_sem, tget e5, z5])
                · have ho2 := ho
                  simp only [List.getElem?_toArray, List.getElem?_cons_zero, List.getElem?_cons_succ, Option.some.injEq] at ho2
                  subst ho2
                  exact rdi_op (.int .i64 (k : Int)) hI hun ho rfl rfl (by omega) (by decide) (tab21_eq (by simp)) (tab21_eq (by simp)) (by intro c h; cases h) (by simp [Oper.about]) (by simp [execOp, go_sem, tget e9, z9])
                · have ho2 := ho
                  simp only [List.getElem?_toArray, List.getElem?_cons_zero, List.getElem?_cons_succ, Option.some.injEq] at ho2
                  subst ho2
                  have d0 := hdeps _ (List.mem_toArray.2 (List.mem_cons_self ..)) rfl
                  have p64 : a1.eval (.tmp 64) = (.slice (some ⟨gA, 0, none⟩) rows.length cap) := hI.pt (4, 64, (.slice (some ⟨gA, 0, none⟩) rows.length cap)) (by simp [tab21]) d0
                  have d1 := hdeps _ (List.mem_toArray.2 (List.mem_cons_of_mem _ (List.mem_cons_self ..))) rfl
                  have p65 : a1.eval (.tmp 65) = (.int .i64 (k : Int)) := hI.pt (5, 65, (.int .i64 (k : Int))) (by simp [tab21]) d1
                  exact rdi_op (.pointer (some ⟨gA, k, none⟩)) hI hun ho rfl rfl (by omega) (by decide) (tab21_eq (by simp)) (tab21_eq (by simp)) (by intro c h; cases h) (by simp [Oper.about]) (by simp [execOp, go_sem, tget p64, tget p65]; exact fun h => absurd hkl (Nat.not_lt.2 h))
                · have ho2 := ho
                  simp only [List.getElem?_toArray, List.getElem?_cons_zero, List.getElem?_cons_succ, Option.some.injEq] at ho2
                  subst ho2
                  have d0 := hdeps _ (List.mem_toArray.2 (List.mem_cons_self ..)) rfl
                  have p66 : a1.eval (.tmp 66) = (.pointer (some ⟨gA, k, none⟩)) := hI.pt (6, 66, (.pointer (some ⟨gA, k, none⟩))) (by simp [tab21]) d0
                  exact rdi_op (.slice (some ⟨gk, 0, none⟩) ws.length ck) hI hun ho rfl rfl (by omega) (by decide) (tab21_eq (by simp)) (tab21_eq (by simp)) (by intro c h; cases h) (by simp [Oper.about]) (by simp [execOp, go_sem, tget p66, zr])
                · have ho2 := ho
                  simp only [List.getElem?_toArray, List.getElem?_cons_zero, List.getElem?_cons_succ, Option.some.injEq] at ho2
                  subst ho2
                  exact rdi_op (.int .i64 (i : Int)) hI hun ho rfl rfl (by omega) (by decide) (tab21_eq (by simp)) (tab21_eq (by simp)) (by intro c h; cases h) (by simp [Oper.about]) (by simp [execOp, go_sem, tget e12])
                · have ho2 := ho
                  simp only [List.getElem?_toArray, List.getElem?_cons_zero, List.getElem?_cons_succ, Option.some.injEq] at ho2
                  subst ho2
                  have d0 := hdeps _ (List.mem_toArray.2 (List.mem_cons_self ..)) rfl
                  have p67 : a1.eval (.tmp 67) = (.slice (some ⟨gk, 0, none⟩) ws.length ck) := hI.pt (7, 67, (.slice (some ⟨gk, 0, none⟩) ws.length ck)) (by simp [tab21]) d0
                  have d1 := hdeps _ (List.mem_toArray.2 (List.mem_cons_of_mem _ (List.mem_cons_self ..))) rfl
                  have p68 : a1.eval (.tmp 68) = (.int .i64 (i : Int)) := hI.pt (8, 68, (.int .i64 (i : Int))) (by simp [tab21]) d1
                  exact rdi_op (.pointer (some ⟨gk, i, none⟩)) hI hun ho rfl rfl (by omega) (by decide) (tab21_eq (by simp)) (tab21_eq (by simp)) (by intro c h; cases h) (by simp [Oper.about]) (by simp [execOp, go_sem, tget p67, tget p68]; exact fun h => absurd hlt (Nat.not_lt.2 h))
                · have ho2 := ho
                  simp only [List.getElem?_toArray, List.getElem?_cons_zero, List.getElem?_cons_succ, Option.some.injEq] at ho2
                  subst ho2
                  have d0 := hdeps _ (List.mem_toArray.2 (List.mem_cons_self ..)) rfl
                  have p69 : a1.eval (.tmp 69) = (.pointer (some ⟨gk, i, none⟩)) := hI.pt (9, 69, (.pointer (some ⟨gk, i, none⟩))) (by simp [tab21]) d0
                  exact rdi_op (.string ⟨(ws[i]).toArray⟩) hI hun ho rfl rfl (by omega) (by decide) (tab21_eq (by simp)) (tab21_eq (by simp)) (by intro c h; cases h) (by simp [Oper.about]) (by simp [execOp, go_sem, tget p69, zk])
                · have ho2 := ho
                  simp only [List.getElem?_toArray, List.getElem?_cons_zero, List.getElem?_cons_succ, Option.some.injEq] at ho2
                  subst ho2
                  have d0 := hdeps _ (List.mem_toArray.2 (List.mem_cons_self ..)) rfl
                  have p63 : a1.eval (.tmp 63) = (.string ⟨(ws[i]).toArray⟩) := hI.pt (3, 63, (.string ⟨(ws[i]).toArray⟩)) (by simp [tab21]) d0
                  have d1 := hdeps _ (List.mem_toArray.2 (List.mem_cons_of_mem _ (List.mem_cons_self ..))) rfl
                  have p70 : a1.eval (.tmp 70) = (.string ⟨(ws[i]).toArray⟩) := hI.pt (10, 70, (.string ⟨(ws[i]).toArray⟩)) (by simp [tab21]) d1
                  exact rdi_op (.bool false) hI hun ho rfl rfl (by omega) (by decide) (tab21_eq (by simp)) (tab21_eq (by simp)) (by intro c h; cases h) (by simp [Oper.about]) (by simp [execOp, go_sem, tget p63, tget p70])
              · intro listed a1 wq hI hup
                have v71 : a1.eval (.tmp 71) = .bool false := hI.pt (11, 71, .bool false) (by simp [tab21]) (hup 11 (by decide))
                obtain rfl := hI.eq
                obtain ⟨f, rfl, hf⟩ := hI.off.forms
                have h71 : f 71 = .bool false := (hf 71).trans v71
                clear hI
                simp only [List.foldl, Act.put, List.setIfInBounds_toArray, List.set, h71]
                simp only [Exit.then]
                gi_step
                gi_meet
                exact ⟨rfl, Lib.hid hbr.out.drew⟩
            case rest =>
              obtain ⟨rfl, hbx⟩ := hcut
              gi_wp2_with fail
              go_roundw
              case rel => exact ⟨i + 1, by go_num, by omega, hbx⟩
              case measure => simp [intOf]; omega
          · obtain rfl : i = ws.length := by omega
            have z9 : wr.cell? ⟨X.heap.size, 0, none⟩ = some (.int .i64 (k : Int)) := (HK.out.next hbr.out).cell 0
            have z9f : wr.frozen? ⟨X.heap.size, 0, none⟩ = false := (HK.out.next hbr.out).frozen 0
            have z8 : wr.cell? ⟨c8, 0, none⟩ = some (.int .i64 (r : Int)) := (L8.out.next hbr.out).cell 0
            have z3 := (hbr.out.cell (p := ⟨w.heap.size, 0, none⟩) (by have := HBY.out.size; dsimp only; omega)).trans Y3.out
            have hn8 : c8 ≠ X.heap.size := by omega
            have hn3 : w.heap.size ≠ X.heap.size := by omega
            have HAdd := Lib.hid (fun hf => RwI.add (r := r) (u0 := u0) (x := ⟨.slice Ax ws.length cx, ws, (k : Int) + 1⟩) HG1.out HK.out hkd hbr.out hf)
            have HKeep := Lib.hid (keeps_add (kb := X.heap.size) (b := X1.heap.size) (n₀ := fun p => p = ⟨g + 1, 0, none⟩ ∨ p = ⟨1, 0, none⟩) (k := k) hbr.out (by omega) hY (by
              rintro p (rfl | rfl)
              · dsimp only; omega
              · dsimp only; omega))
            clear y5 y9 yr hz1
            rcases (by omega : r = 0 ∨ r = 1) with rfl | rfl
            · by_cases hf : u0 < k + 1
              · gi_wp2_with fail
                exact ⟨HKeep.out.1, rfl, rfl, grown_set (grown_on HG1.out (below_grown hbr.out) (fun r e => by cases e)) 0 _⟩
              · have HA := Lib.hid (HAdd.out (fun _ => by omega))
                gi_wp2_with fail
                exact ⟨HKeep.out.1, HKeep.out.2, HA.out⟩
            · have HA := Lib.hid (HAdd.out (fun h => by cases h))
              gi_wp2_with fail
              exact ⟨HKeep.out.1, HKeep.out.2, HA.out⟩
      case done =>
        rintro D xs Y hD hS ⟨hg1, hk, hfew⟩ hK
        clear LI hI0
        have hxl : xs.length = rows.length := by rw [HKey.out, ← hS, List.length_map]
        have y8 : Y.cell? ⟨c8, 0, none⟩ = some (.int .i64 (r : Int)) := (l8.out.grown hg1 (fun e => by cases e; omega)).cell 0
        have y9 : Y.cell? ⟨X.heap.size, 0, none⟩ = some (.int .i64 (xs.length : Int)) := hk.cell 0
        have HBY : Hid (Below W5.heap.size W5 Y) := Lib.hid (grown_below HB1.out hsX HB1.out.size hg1)
        have y5 := (HBY.out.cell (p := ⟨g, 0, none⟩) (by dsimp only; omega)).trans Q5.out
        have HS := Lib.hid (RwO.step (r := r) HB1.out HD.out hnd (by omega) hsX hg1 hD hK)
        rw [hxl] at y9
        clear hg1 hk hfew hS hxl
        rcases (by omega : r = 0 ∨ r = 1) with rfl | rfl
        · gi_wp2_with fail
          exact ⟨⟨1, D :: ds, Y.heap.size, by omega, by simp [hds], HS, by apply fr_ex⟩, by simp [hds]⟩
        · gi_wp2_with fail
          exact ⟨⟨2, D :: ds, Y.heap.size, by omega, by simp [hds], HS, by apply fr_ex⟩, by simp [hds]⟩
      case stop =>
        rintro D c pre Y hD hSp ⟨rfl, rfl, hg1⟩ hK
        clear LI hI0
        have y8 : Y.cell? ⟨c8, 0, none⟩ = some (.int .i64 ((0 : Nat) : Int)) := (l8.out.grown hg1 (fun e => by cases e; omega)).cell 0
        have HS := Lib.hid (RwO.step (r := 0) HB1.out HD.out hnd (by omega) hsX hg1 hD hK)
        clear hg1
        gi_wp2_with fail
        exact ⟨⟨1, D :: ds, Y.heap.size, by omega, by simp [hds], HS, by apply fr_ex⟩, by simp [hds]⟩
    · obtain rfl : r = 2 := by omega
      have y8 : X.cell? ⟨c8, 0, none⟩ = some (.int .i64 2) := HO.out.rc.cell 0
      have y4 := (HO.out.bel.cell (p := ⟨w.heap.size + 1, 0, none⟩) (by dsimp only; omega)).trans Q4.out
      have f4 := (HO.out.bel.frozen (p := ⟨w.heap.size + 1, 0, none⟩) (by dsimp only; omega)).trans QF.out
      have hlr : w.heap.size + 1 < X.heap.size := by have := HO.out.bel.size; omega
      gi_wp2_with fail
      refine leaves_marks (b := W5.heap.size) ds _ HO.out.nd (fun d hd => ?_) (fun W' hW => ?_)
      · obtain ⟨k1, k2⟩ := HO.out.marks d hd
        exact ⟨k1, (heap_setCell_other X ⟨w.heap.size + 1, 0, none⟩ d _ (fun e => by dsimp only at e; omega)).trans k2⟩
      · have hcell : W'.cell? ⟨w.heap.size + 1, 0, none⟩ = some (.bool true) := by
          rw [hW.cell (p := ⟨w.heap.size + 1, 0, none⟩) (by dsimp only; omega)]
          simp [go_sem, y4]
        refine ⟨.bool true, by simp [results, Tryd.results9, go_sem, hcell], rfl, ?_⟩
        have hb1 : Below w.heap.size w (X.setCell ⟨w.heap.size + 1, 0, none⟩ (.bool true)) := (HB5.out.trans (HO.out.bel.mono HB5.out.size)).setCell (p := ⟨w.heap.size + 1, 0, none⟩) (by dsimp only; omega) _
        exact hb1.trans (hW.mono (by omega))
set_option maxRecDepth 100000 in
set_option maxHeartbeats 3200000 in
theorem csvRows_long (s : Bs) (u0 : Nat) (w : World) (hl : 2000 < s.length) (hT : Tab w) (hP : PowTab w) (hm : MaxVar w) :
    Calls Tryd.prog 9 #[.string ⟨s.toArray⟩, .int .u8 (u0 : Int)] w fun e w' => e = .returned (.bool true) ∧ Below w.heap.size w w' := by
  refine (callsIn_wide (n := 10)).1 ?_
  have C0 := Lib.hid (fun X a b c => (callsIn_wide (n := 9)).2 (awake32_any X a b c))
  have HT := Lib.hid hT
  have HP := Lib.hid hP
  have HM := Lib.hid hm
  have hl2 : (2000 : Int) < (s.length : Int) := by omega
  clear hT hP hm
  refine callsIn_of_wp_marks Tryd.func9 rfl trivial ?_ rfl
  simp only [Tryd.ntmps9, List.size_toArray, List.length_cons, List.length_nil, Nat.reduceAdd, Nat.reduceSub, Array.replicate_succ, Array.replicate_zero, List.push_toArray, List.append_toArray, List.nil_append, List.cons_append]
  gi_wp2_with fail
  have HB0 : Hid (Below w.heap.size w ((w.alloc (.cells #[.int .u8 (u0 : Int)] 5)).alloc (.cells #[.bool false] 4))) := Lib.hid (((Below.refl _ w).alloc (Nat.le_refl _) _).alloc (by simp only [World.size_alloc]; omega) _)
  have hL : Lies ((w.alloc (.cells #[.int .u8 (u0 : Int)] 5)).alloc (.cells #[.bool false] 4)) (w.heap.size + 1) 4 #[.bool false] := by
    have h := Lies.new (w.alloc (.cells #[.int .u8 (u0 : Int)] 5)) 4 #[.bool false]
    rw [World.size_alloc] at h
    exact h
  have HL := Lib.hid hL
  clear hL
  generalize (w.alloc (.cells #[.int .u8 (u0 : Int)] 5)).alloc (.cells #[.bool false] 4) = W1 at *
  refine ⟨trivial, ?_⟩
  refine (C0.out _ (HT.out.next HB0.out) (HP.out.next HB0.out) (HM.out.next HB0.out)).mono ?_
  rintro e w1 ⟨rfl, hb⟩
  have HL1 := Lib.hid (HL.out.next hb)
  have HB1 := Lib.hid (HB0.out.trans (hb.mono HB0.out.size))
  have y4 : w1.cell? ⟨w.heap.size + 1, 0, none⟩ = some (.bool false) := HL1.out.cell 0
  have f4 := HL1.out.frozen 0
  clear hb HB0 C0 HL
  gi_wp2_with fail
  refine ⟨.bool true, by simp [results, Tryd.results9, go_sem, y4], rfl, ?_⟩
  exact HB1.out.setCell (p := ⟨w.heap.size + 1, 0, none⟩) (by dsimp only; omega) _
theorem csvRows_all (s : Bs) (u0 : Nat) (w : World) (hu : u0 ≤ 255) (hT : Tab w) (hP : PowTab w) (hm : MaxVar w) :
    Calls Tryd.prog 9 #[.string ⟨s.toArray⟩, .int .u8 (u0 : Int)] w fun e w' => e = .returned (.bool true) ∧ Below w.heap.size w w' := by
  rcases Nat.lt_or_ge 2000 s.length with h | h
  · exact csvRows_long s u0 w h hT hP hm
  · exact csvRows_any s u0 w hu h hT hP hm
end Go.Proofs.YteccjdclkcipbaaDoor
