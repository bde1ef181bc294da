/-
  csv.Rows: the iterator that it makes.
-/
import Derived.Test.YteccjdclkcipbaaDoorCsv3
namespace Go.Proofs.YteccjdclkcipbaaDoor
open Go.RowKit Go.Shelf
attribute [local go_sem] Oper.semAt_some

/-- the words of the lines ahead of the first one that is wrong -/
def cRs (s : Bs) : List (List Bs) := ((cLines s).filter (fun x => decide (x.2 = 0))).map (·.1)
def encsR (x : LX) : Array Value := #[.int .i64 x.er, x.v]
def RR (n₀ : Nat) (s : Bs) (pre : List LX) (x : LX) (W : World) : Prop := W.ownsRow n₀ 9 1 x.v x.ws.length (x.ws.map wordV) ∧ x.er = ((pre.length + 1 : Nat) : Int) ∧ (pre ++ [x]).map LX.ws <+: cRs s
/-- the lines with their numbers -/
def numK (k : Nat) : List LX → List LX
  | [] => []
  | x :: t => ⟨x.v, x.ws, ((k + 1 : Nat) : Int)⟩ :: numK (k + 1) t
theorem numK_len : ∀ (l : List LX) (k : Nat), (numK k l).length = l.length
  | [], _ => rfl
  | x :: t, k => by simp [numK, numK_len t]
theorem numK_ws : ∀ (l : List LX) (k : Nat), (numK k l).map LX.ws = l.map LX.ws
  | [], _ => rfl
  | x :: t, k => by simp [numK, numK_ws t]
theorem numK_app (x : LX) : ∀ (l : List LX) (k : Nat), numK k (l ++ [x]) = numK k l ++ [⟨x.v, x.ws, ((k + l.length + 1 : Nat) : Int)⟩]
  | [], k => rfl
  | y :: t, k => by
    simp only [List.cons_append, numK, numK_app x t (k + 1), List.length_cons]
    congr 4
    omega
theorem cLines_len : ∀ (n : Nat) (s : Bs), s.length ≤ n → (cLines s).length ≤ s.length := by
  intro n
  induction n with
  | zero =>
    intro s hs
    obtain rfl := List.eq_nil_of_length_eq_zero (by omega : s.length = 0)
    rw [cLines_step, if_pos rfl]
    exact Nat.le_refl _
  | succ n ih =>
    intro s hs
    rw [cLines_step]
    by_cases h0 : s = []
    · rw [if_pos h0]; simp
    · have hp := List.length_pos_iff.2 h0
      rw [if_neg h0]
      by_cases he : (cLine s []).2.2 ≠ 0
      · rw [if_pos he]; simp; omega
      · rw [if_neg he]
        have hl := (cLine_len s.length s [] (Nat.le_refl _) (Decidable.not_not.1 he)).1
        have := ih (cLine s []).2.1 (by omega)
        rw [List.length_cons]; omega
theorem wrap_s (k : Nat) (h : k ≤ 1000000) : wrap64 ((k : Int) + 1) = (k : Int) + 1 := by unfold wrap64; omega
theorem good_filter (pre : List LX) (h : ∀ x ∈ pre, x.er = 0) : ((pre.map LX.key).filter (fun x => decide (x.2 = 0))).map (·.1) = pre.map LX.ws := by
  rw [List.filter_eq_self.2 (fun a ha => by
    obtain ⟨x, hx, rfl⟩ := List.mem_map.1 ha
    exact decide_eq_true (h x hx)), List.map_map]
  rfl
theorem good_prefix (pre : List LX) (s : Bs) (h : ∀ x ∈ pre, x.er = 0) (hp : pre.map LX.key <+: cLines s) : pre.map LX.ws <+: cRs s := by
  rw [← good_filter pre h]
  exact (hp.filter _).map _
theorem good_all (pre : List LX) (s : Bs) (h : ∀ x ∈ pre, x.er = 0) (hp : pre.map LX.key = cLines s) : pre.map LX.ws = cRs s := by
  rw [← good_filter pre h, hp]
  rfl
/-- behind an error nothing comes -/
theorem cLines_bad : ∀ (n : Nat) (s : Bs) (p t : List (List Bs × Int)) (x : List Bs × Int), s.length ≤ n → cLines s = p ++ x :: t → x.2 ≠ 0 → t = [] ∧ ∀ y ∈ p, y.2 = 0 := by
  intro n
  induction n with
  | zero =>
    intro s p t x hs h _
    obtain rfl := List.eq_nil_of_length_eq_zero (by omega : s.length = 0)
    rw [cLines_step, if_pos rfl] at h
    simp at h
  | succ n ih =>
    intro s p t x hs h hx
    rw [cLines_step] at h
    by_cases h0 : s = []
    · rw [if_pos h0] at h; simp at h
    · rw [if_neg h0] at h
      by_cases he : (cLine s []).2.2 ≠ 0
      · rw [if_pos he] at h
        rcases p with _ | ⟨y, p⟩
        · rw [List.nil_append] at h
          injection h with h1 h2
          exact ⟨h2.symm, by simp⟩
        · rw [List.cons_append] at h
          injection h with h1 h2
          simp at h2
      · rw [if_neg he] at h
        have hl := (cLine_len s.length s [] (Nat.le_refl _) (Decidable.not_not.1 he)).1
        rcases p with _ | ⟨y, p⟩
        · rw [List.nil_append] at h
          injection h with h1 h2
          rw [← h1] at hx
          exact absurd rfl hx
        · rw [List.cons_append] at h
          injection h with h1 h2
          obtain ⟨r1, r2⟩ := ih _ p t x (by omega) h2 hx
          refine ⟨r1, fun z hz => ?_⟩
          rcases List.mem_cons.1 hz with rfl | hz
          · rw [← h1]
          · exact r2 z hz
theorem bad_all (pre : List LX) (x : LX) (s : Bs) (hx : x.er ≠ 0) (hp : (pre ++ [x]).map LX.key <+: cLines s) : pre.map LX.ws = cRs s := by
  obtain ⟨t, ht⟩ := hp
  rw [List.map_append, List.append_assoc] at ht
  obtain ⟨h1, h2⟩ := cLines_bad s.length s (pre.map LX.key) t x.key (Nat.le_refl _) ht.symm hx
  have hg : ∀ y ∈ pre, y.er = 0 := fun y hy => h2 y.key (List.mem_map_of_mem hy)
  unfold cRs
  rw [← ht, List.filter_append, List.map_append, good_filter pre hg, h1]
  have : decide (x.key.2 = 0) = false := decide_eq_false hx
  simp [this]
theorem round_wide {m m' : Nat} {P : Program} {l : Nat} {f : FuncId} {tmps : Array Value} {assign body : Code} {w : World} {R : Ending → World → Prop} (l' : Nat) (h : RoundIn Fence.wide m P l f tmps assign body w R) : RoundIn (Fence.wide.inRound l') m' P l f tmps assign body w R := ⟨trivial, fun c cs _ => h.2 c cs (room_wide _)⟩
theorem lines_any (s : Bs) (w : World) : Calls Tryd.prog 73 #[.string ⟨s.toArray⟩] w fun e w' => e = .returned (.func (.func 104) #[] #[.pointer (some ⟨w.heap.size, 0, none⟩)]) ∧ w' = w.alloc (.cells #[.string ⟨s.toArray⟩] 9) := by
  go_enter Tryd.func73, Tryd.ntmps73
  go_wp2_with fail
  go_ret
  exact ⟨rfl, rfl⟩
theorem rows_any (s : Bs) (w : World) : Calls Tryd.prog 38 #[.string ⟨s.toArray⟩] w fun e w' => e = .returned (.func (.func 72) #[] #[.pointer (some ⟨w.heap.size, 0, none⟩)]) ∧ w' = w.alloc (.cells #[.string ⟨s.toArray⟩] 9) := by
  go_enter Tryd.func38, Tryd.ntmps38
  go_wp2_with fail
  go_ret
  exact ⟨rfl, rfl⟩
theorem own_other {w w' : World} {row : Option Nat} {b : Nat} {e : TypeId} {size : Nat} {v : Value} {n : Nat} {xs : List Value} (h : w.ownsRow b e size v n xs) (hg : w.grownBy w' row) (hr : ∀ r, row = some r → ∃ o : Obj, w.heap[r]? = some o ∧ o.isCells = false) : w'.ownsRow b e size v n xs := by
  refine h.kept hg ?_
  rcases h.2 with ⟨rfl, _⟩ | ⟨g, c, k, rfl, _, a1, _⟩
  · exact .inl rfl
  · refine .inr fun e => ?_
    obtain ⟨o, h1, h2⟩ := hr g e.symm
    rw [a1] at h1
    cases h1
    cases h2
/-- what csv.Rows$1 holds between its rounds -/
structure RSt (J : List LX → World → Prop) (l q : Nat) (s : Bs) (pre : List LX) (X : World) : Prop where
  yld : X.cell? ⟨q, 0, none⟩ = some (.func (.yield l) #[] #[])
  num : X.cell? ⟨q + 1, 0, none⟩ = some (.int .i64 (pre.length : Int))
  froz : X.frozen? ⟨q + 1, 0, none⟩ = false
  good : ∀ x ∈ pre, x.er = 0
  j : J (numK 0 pre) X
/-- how the rounds of csv.Rows$1 may end it -/
def RStop (J Jx : List LX → World → Prop) (s : Bs) (c : Code) (xs : List LX) (X : World) : Prop :=
  c = .ret ∧ ((∃ pre, pre.map LX.ws = cRs s ∧ J (numK 0 pre) X) ∨ (xs.map LX.ws <+: cRs s ∧ Jx (numK 0 xs) X))
theorem RSt.own {J : List LX → World → Prop} {l q b : Nat} {s : Bs} (hJ : OwnTo q q 3 J) (hqb : q + 3 ≤ b) : OwnTo b (b + 2) 0 (fun pre X => RSt J l q s pre X) := by
  intro pre A B row h hg hr
  have hrow : ∀ r, row = some r → b ≤ r ∧ ∃ o : Obj, A.heap[r]? = some o ∧ o.isCells = false := fun r e => by
    obtain ⟨h1, h2⟩ := hr r e
    rcases h2 with h2 | h2
    · omega
    · exact ⟨h1, h2⟩
  exact ⟨cell_kept h.yld hg (fun r e => (hrow r e).2), cell_kept h.num hg (fun r e => (hrow r e).2), (frozen_kept h.num hg (fun r e => (hrow r e).2)).trans h.froz, h.good, hJ _ A B row h.j hg (fun r e => ⟨by have := (hrow r e).1; omega, .inr (hrow r e).2⟩)⟩
theorem RStop.own {J Jx : List LX → World → Prop} {q b : Nat} {s : Bs} (hJ : OwnTo q q 3 J) (hJx : OwnTo q q 3 Jx) (hqb : q + 3 ≤ b) (c : Code) : OwnTo b (b + 2) 0 (RStop J Jx s c) := by
  intro pre A B row h hg hr
  have hrow : ∀ r, row = some r → q ≤ r ∧ ((q ≤ r ∧ r < q + 3) ∨ ∃ o : Obj, A.heap[r]? = some o ∧ o.isCells = false) := fun r e => by
    obtain ⟨h1, h2⟩ := hr r e
    rcases h2 with h2 | h2
    · omega
    · exact ⟨by omega, .inr h2⟩
  obtain ⟨h1, h2⟩ := h
  refine ⟨h1, ?_⟩
  rcases h2 with ⟨p, a, b⟩ | ⟨a, b⟩
  · exact .inl ⟨p, a, hJ _ A B row b hg hrow⟩
  · exact .inr ⟨a, hJx _ A B row b hg hrow⟩
set_option maxRecDepth 100000 in
set_option maxHeartbeats 6400000 in
theorem rows1_in (n : Nat) (hn : 4 ≤ n) (B n₀ : Nat) (s : Bs) (w : World) (hs : s.length ≤ 1000000) (hm : MaxVar w) (hG : 1 < n₀) (hb : w.cell? ⟨B, 0, none⟩ = some (.string ⟨s.toArray⟩)) (hB : B < n₀) (hn₀ : n₀ ≤ w.heap.size) :
    SeqR Fence.wide n Tryd.prog 72 #[.pointer (some ⟨B, 0, none⟩)] encsR (fun p => p = ⟨B, 0, none⟩ ∨ p = ⟨1, 0, none⟩) 3 (RR n₀ s) (fun xs => xs.map LX.ws = cRs s) (fun pre => pre.map LX.ws <+: cRs s) w := fun l J Jx W hW hJ hJx hY h0 => by
  have h1 : 1 ≤ n := by omega
  have h2' : Hid (1 ≤ n - 1 - 1) := Lib.hid (by omega)
  have HM : Hid (MaxVar W) := Lib.hid (hm.next hW)
  have hbW : W.cell? ⟨B, 0, none⟩ = some (.string ⟨s.toArray⟩) := (hW.cell (p := ⟨B, 0, none⟩) (by show B < w.heap.size; omega)).trans hb
  have hBl : B < W.heap.size := by have := hW.size; omega
  have HJ := Lib.hid hJ
  have HJx := Lib.hid hJx
  have HY := Lib.hid hY
  have H0 := Lib.hid h0
  have hsz : n₀ ≤ W.heap.size := Nat.le_trans hn₀ hW.size
  clear hJ hY hW hJx hb hm h0
  have CL := Lib.hid (fun X => (callsIn_wide (n := n - 1)).2 (lines_any s X))
  refine callsIn_of_wp_marks Tryd.func72 rfl trivial ?_ rfl
  simp only [Tryd.ntmps72, List.size_toArray, List.length_cons, List.length_nil, Nat.reduceAdd, Nat.reduceSub, Array.replicate_succ, Array.replicate_zero, List.push_toArray, List.append_toArray, List.nil_append, List.cons_append]
  gi_wp2_with fail
  refine ⟨trivial, ?_⟩
  refine (CL.out _).mono ?_
  rintro e w1 ⟨rfl, rfl⟩
  gi_wp2_with fail
  obtain ⟨W3, hW3⟩ : ∃ W3, W3 = ((W.alloc (.cells #[.func (.yield l) #[] #[]] 121)).alloc (.cells #[.int .i64 0] 3)).alloc (.cells #[.string ⟨s.toArray⟩] 9) := ⟨_, rfl⟩
  have hb3 : Below W.heap.size W W3 := by
    rw [hW3]; exact (((Below.refl _ W).alloc (Nat.le_refl _) _).alloc (by simp only [World.size_alloc]; omega) _).alloc (by simp only [World.size_alloc]; omega) _
  have hz3 : W3.heap.size = W.heap.size + 3 := by rw [hW3]; simp
  have c0 : W3.cell? ⟨W.heap.size, 0, none⟩ = some (.func (.yield l) #[] #[]) := by rw [hW3]; simp [go_sem]
  have c1 : W3.cell? ⟨W.heap.size + 1, 0, none⟩ = some (.int .i64 0) := by rw [hW3]; simp [go_sem]
  have c1f : W3.frozen? ⟨W.heap.size + 1, 0, none⟩ = false := by rw [hW3]; simp [go_sem]
  have c2 : W3.cell? ⟨W.heap.size + 1 + 1, 0, none⟩ = some (.string ⟨s.toArray⟩) := by rw [hW3]; simp [go_sem]
  have hj3 : J [] W3 := HJ.out [] W W3 none H0.out (below_grown hb3) (fun r e => by cases e)
  rw [← hW3]
  have hm3 : MaxVar W3 := HM.out.next hb3
  clear hW3 hbW CL H0
  generalize hq : W.heap.size = q at *
  have LI := lines1_in (n - 1) (by omega) (q + 1 + 1) (q + 3) s W3 hs hm3 (by omega) c2 (by omega) (by omega)
  refine wpIn_rangeR rfl h1 (gf := 104) (lb := #[.pointer (some ⟨q + 1 + 1, 0, none⟩)]) rfl trivial (enters_of Tryd.func104 (by kernel_rfl) rfl) LI
    (fun p h => by rcases h with rfl | rfl <;> (dsimp only; omega))
    (fun pre x X Y row h hg hr => ⟨own_other h.1 hg (fun r e => (hr r e).2), h.2⟩)
    (fun _ => rfl)
    (fun pre X => RSt J l q s pre X) (RStop J Jx s) (RSt.own HJ.out (by omega)) (RStop.own HJ.out HJx.out (by omega)) ⟨c0, c1, c1f, by simp, hj3⟩
    (fun x => { tmps := #[.func (.yield l) #[] #[], .pointer (some ⟨B, 0, none⟩), .pointer (some ⟨q, 0, none⟩), .pointer (some ⟨q + 1, 0, none⟩), x.v, .int .i64 x.er, .string ⟨s.toArray⟩, .func (.func 104) #[] #[.pointer (some ⟨q + 1 + 1, 0, none⟩)], x.v, .int .i64 x.er, undef, undef, undef, undef, undef, undef, undef, undef, undef, undef, undef], defers := [] }) ?assign ?body ?done ?stop
  case assign =>
    intro l' x X K hK
    dsimp only [encsL]
    gi_wp2
    exact hK
  case body =>
    rintro l' pre x X hX hI hR
    obtain ⟨h0, h2, h3, h4, h5⟩ := hI
    obtain ⟨hown, hpre⟩ := hR
    have hqX : q + 5 ≤ X.heap.size := by omega
    obtain ⟨X1, hX1⟩ : ∃ X1, X1 = X.setCell ⟨q + 1, 0, none⟩ (.int .i64 ((pre.length : Int) + 1)) := ⟨_, rfl⟩
    have hg1 : X.grownBy X1 (some (q + 1)) := by rw [hX1]; exact grownBy_setCell' X _ _
    have hjX : J (numK 0 pre) X1 := HJ.out _ X X1 _ h5 hg1 (fun r e => by cases e; exact ⟨by omega, .inl ⟨by omega, by omega⟩⟩)
    have k1 : X1.cell? ⟨q + 1, 0, none⟩ = some (.int .i64 ((pre.length : Int) + 1)) := by rw [hX1]; exact World.cell?_setCell_same _ _ _ h2
    have k1f : X1.frozen? ⟨q + 1, 0, none⟩ = false := by rw [hX1, World.frozen?_setCell]; exact h3
    have kot : ∀ b, b ≠ q + 1 → X1.cell? ⟨b, 0, none⟩ = X.cell? ⟨b, 0, none⟩ := fun b hb => by
      rw [hX1]
      apply World.cell?_setCell_other
      intro e; injection e with e; exact hb e.symm
    have k0 : X1.cell? ⟨q, 0, none⟩ = some (.func (.yield l) #[] #[]) := (kot q (by omega)).trans h0
    have hz1 : X.heap.size ≤ X1.heap.size := hg1.size
    have hownX : X1.ownsRow (q + 3) 9 1 x.v x.ws.length (x.ws.map wordV) := by rw [hX1]; exact ownsRow_setCell_below hown (by show q + 1 < q + 3; omega) _
    have hfar : KeepsFar W3.heap.size X X1 := KeepsFar.grown hg1 (fun r e => by cases e; exact .inl (by omega))
    have hat : KeepsAt (KAnd (fun p => p = ⟨q + 1 + 1, 0, none⟩ ∨ p = ⟨1, 0, none⟩) (W3.heap.size + 2) 0) X X1 := ⟨hz1, fun p hp => by
      rcases hp with (rfl | rfl) | hp
      · exact kot _ (by omega)
      · exact kot _ (by omega)
      · omega, fun p _ => by rw [hX1, World.frozen?_setCell]⟩
    have hpl : pre.length ≤ 1000000 := by
      have a := hpre.length_le
      have b := cLines_len s.length s (Nat.le_refl _)
      simp only [List.length_map, List.length_append, List.length_singleton] at a
      omega
    have hw1 : wrap64 ((pre.length : Int) + 1) = (pre.length : Int) + 1 := wrap_s _ hpl
    by_cases he : x.er = 0
    · have hgood : ∀ y ∈ pre ++ [x], y.er = 0 := fun y hy => by
        rcases List.mem_append.1 hy with hy | hy
        · exact h4 y hy
        · rw [List.mem_singleton.1 hy]; exact he
      have hRR : RR n₀ s (numK 0 pre) ⟨x.v, x.ws, ((0 + pre.length + 1 : Nat) : Int)⟩ X1 := ⟨own_down hownX (by omega), by rw [numK_len]; simp, by
        have := good_prefix (pre ++ [x]) s hgood hpre
        rw [← numK_app, numK_ws]
        exact this⟩
      obtain ⟨fn, tmps, assign, body, hy, hRd⟩ := HY.out (numK 0 pre) _ X1 (by omega) hjX hRR
      rw [← numK_app] at hRd
      rw [Nat.zero_add] at hy
      dsimp only [encsR] at hy
      rw [show ((pre.length + 1 : Nat) : Int) = (pre.length : Int) + 1 by simp] at hy
      have b0 : (x.er != 0) = false := by rw [he]; rfl
      have HRd := Lib.hid (round_wide (m' := n - 1 - 1 - 1) l' hRd)
      have HP : Hid ((pre ++ [x]).map LX.ws <+: cRs s) := Lib.hid (good_prefix (pre ++ [x]) s hgood hpre)
      have HFar := Lib.hid hfar
      have HAt := Lib.hid hat
      have HGood := Lib.hid hgood
      have HF := Lib.hid k1f
      have HK1 := Lib.hid k1
      subst hX1
      clear kot hfar hat hgood hRd hRR hjX hown hownX hg1 hpre h4 h5 k1 k1f hq hb3 hj3 hm3 LI he
      gi_wp2_with fail
      refine ⟨fun _ => h2'.out, ?_⟩
      refine HRd.out.mono ?_
      rintro e W' (⟨rfl, hJ', hk, hf⟩ | ⟨rfl, hJx', hf⟩)
      · have P1 : Hid (KeepsFar W3.heap.size X W') := Lib.hid (HFar.out.trans (hf.mono (by omega)))
        have P2 : Hid (KeepsAt (KAnd (fun p => p = ⟨q + 1 + 1, 0, none⟩ ∨ p = ⟨1, 0, none⟩) (W3.heap.size + 2) 0) X W') := Lib.hid (HAt.out.trans ⟨hk.1, fun p hp => hk.2.1 p (by
          rcases hp with (rfl | rfl) | hp
          · exact .inr ⟨by dsimp only; omega, by dsimp only; omega⟩
          · exact .inl (.inr rfl)
          · omega), fun p hp => hk.2.2 p (by
          rcases hp with (rfl | rfl) | hp
          · exact .inr ⟨by dsimp only; omega, by dsimp only; omega⟩
          · exact .inl (.inr rfl)
          · omega)⟩)
        have hin : ∀ i, i < 3 → KAnd (fun p => p = ⟨B, 0, none⟩ ∨ p = ⟨1, 0, none⟩) q 3 ⟨q + i, 0, none⟩ := fun i hi => .inr ⟨by dsimp only; omega, by dsimp only; omega⟩
        have P3 : Hid (RSt J l q s (pre ++ [x]) W') := Lib.hid ⟨(hk.2.1 ⟨q, 0, none⟩ (hin 0 (by omega))).trans k0, by rw [hk.2.1 ⟨q + 1, 0, none⟩ (hin 1 (by omega)), HK1.out, List.length_append, List.length_singleton]; rfl, (hk.2.2 ⟨q + 1, 0, none⟩ (hin 1 (by omega))).trans HF.out, HGood.out, hJ'⟩
        clear hin hk hf hJ' HRd
        gi_wp2_with fail
        exact ⟨P1.out, P2.out, P3.out⟩
      · have P1 : Hid (KeepsFar W3.heap.size X W') := Lib.hid (HFar.out.trans (hf.mono (by omega)))
        have P3 : Hid (RStop J Jx s .ret (pre ++ [x]) W') := Lib.hid ⟨rfl, .inr ⟨HP.out, hJx'⟩⟩
        clear hf hJx' HRd
        gi_wp2_with fail
        exact ⟨P1.out, P3.out⟩
    · have b0 : (x.er != 0) = true := by rw [bne_iff_ne]; exact he
      have HFar := Lib.hid hfar
      have HR2 : Hid (pre.map LX.ws = cRs s) := Lib.hid (bad_all pre x s he hpre)
      have HJ2 := Lib.hid hjX
      subst hX1
      clear kot hfar hat hjX hown hownX hg1 hpre h4 h5 k1 k1f hq hb3 hj3 hm3 LI he
      gi_wp2_with fail
      refine ⟨(fun f h => by cases h), ?_⟩
      gi_wp2_with fail
      exact ⟨HFar.out, rfl, .inl ⟨pre, HR2.out, HJ2.out⟩⟩
  case done =>
    rintro D xs X hD hS hI hK
    have hjD : J (numK 0 xs) (X.putObj D (.deferred none)) := HJ.out _ X _ _ hI.j (grownBy_putObj' X D _) (fun r e => by cases e; exact ⟨by omega, .inr ⟨_, hK, rfl⟩⟩)
    have hws : (numK 0 xs).map LX.ws = cRs s := by rw [numK_ws]; exact good_all xs s hI.good hS
    gi_wp2
    refine ⟨by simp, .inl ⟨_, _, rfl, run_takeDeferred hK, ?_⟩⟩
    refine ⟨_, results_none rfl _ _ _, ⟨_, rfl⟩, .inl ⟨_, hws, hjD⟩⟩
  case stop =>
    rintro D c pre X hD hSp ⟨rfl, hI⟩ hK
    gi_wp2
    refine ⟨by simp, .inl ⟨_, _, rfl, run_takeDeferred hK, ?_⟩⟩
    refine ⟨_, results_none rfl _ _ _, ⟨_, rfl⟩, ?_⟩
    rcases hI with ⟨p, a, b⟩ | ⟨a, b⟩
    · exact .inl ⟨numK 0 p, by rw [numK_ws]; exact a, HJ.out _ X _ _ b (grownBy_putObj' X D _) (fun r e => by cases e; exact ⟨by omega, .inr ⟨_, hK, rfl⟩⟩)⟩
    · exact .inr ⟨numK 0 pre, by rw [numK_ws]; exact a, HJx.out _ X _ _ b (grownBy_putObj' X D _) (fun r e => by cases e; exact ⟨by omega, .inr ⟨_, hK, rfl⟩⟩)⟩
end Go.Proofs.YteccjdclkcipbaaDoor
