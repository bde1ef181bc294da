/-
  csv.Rows: the iterator that it makes.
-/
import Derived.Test.YteccjdclkcipbaaGreatDoorCsv3
namespace Go.Proofs.YteccjdclkcipbaaGreatDoor
open Go.RowKit Go.Shelf
attribute [local go_sem] Oper.semAt_some

/-- the words of the lines ahead of the first one that is wrong -/
def cRs (s : Bs) : List (List Bs) := ((cLines s).filter (fun x => decide (x.2 = 0))).map (·.1)
def encsR (x : LX) : Array Value := #[.int .i64 x.er, x.v]
def RR (n₀ : Nat) (s : Bs) (pre : List LX) (x : LX) (W : World) : Prop := W.ownsRow n₀ 9 1 x.v x.ws.length (x.ws.map wordV) ∧ x.er = ((pre.length + 1 : Nat) : Int) ∧ (pre ++ [x]).map LX.ws <+: cRs s
/-- the lines with their numbers -/
def numK (k : Nat) : List LX → List LX
  | [] => []
  | x :: t => ⟨x.v, x.ws, ((k + 1 : Nat) : Int)⟩ :: numK (k + 1) t
theorem numK_len : ∀ (l : List LX) (k : Nat), (numK k l).length = l.length
  | [], _ => rfl
  | x :: t, k => by simp [numK, numK_len t]
theorem numK_ws : ∀ (l : List LX) (k : Nat), (numK k l).map LX.ws = l.map LX.ws
  | [], _ => rfl
  | x :: t, k => by simp [numK, numK_ws t]
theorem numK_app (x : LX) : ∀ (l : List LX) (k : Nat), numK k (l ++ [x]) = numK k l ++ [⟨x.v, x.ws, ((k + l.length + 1 : Nat) : Int)⟩]
  | [], k => rfl
  | y :: t, k => by
    simp only [List.cons_append, numK, numK_app x t (k + 1), List.length_cons]
    congr 4
    omega
theorem cLines_len : ∀ (n : Nat) (s : Bs), s.length ≤ n → (cLines s).length ≤ s.length := by
  intro n
  induction n with
  | zero =>
    intro s hs
    obtain rfl := List.eq_nil_of_length_eq_zero (by omega : s.length = 0)
    rw [cLines_step, if_pos rfl]
    exact Nat.le_refl _
  | succ n ih =>
    intro s hs
    rw [cLines_step]
    by_cases h0 : s = []
    · rw [if_pos h0]; simp
    · have hp := List.length_pos_iff.2 h0
      rw [if_neg h0]
      by_cases he : (cLine s []).2.2 ≠ 0
      · rw [if_pos he]; simp; omega
      · rw [if_neg he]
        have hl := (cLine_len s.length s [] (Nat.le_refl _) (Decidable.not_not.1 he)).1
        have := ih (cLine s []).2.1 (by omega)
        rw [List.length_cons]; omega
theorem wrap_s (k : Nat) (h : k ≤ 1000000) : wrap64 ((k : Int) + 1) = (k : Int) + 1 := by unfold wrap64; omega
theorem good_filter (pre : List LX) (h : ∀ x ∈ pre, x.er = 0) : ((pre.map LX.key).filter (fun x => decide (x.2 = 0))).map (·.1) = pre.map LX.ws := by
  rw [List.filter_eq_self.2 (fun a ha => by
    obtain ⟨x, hx, rfl⟩ := List.mem_map.1 ha
    exact decide_eq_true (h x hx)), List.map_map]
  rfl
theorem good_prefix (pre : List LX) (s : Bs) (h : ∀ x ∈ pre, x.er = 0) (hp : pre.map LX.key <+: cLines s) : pre.map LX.ws <+: cRs s := by
  rw [← good_filter pre h]
  exact (hp.filter _).map _
theorem good_all (pre : List LX) (s : Bs) (h : ∀ x ∈ pre, x.er = 0) (hp : pre.map LX.key = cLines s) : pre.map LX.ws = cRs s := by
  rw [← good_filter pre h, hp]
  rfl
/-- behind an error nothing comes -/
theorem cLines_bad : ∀ (n : Nat) (s : Bs) (p t : List (List Bs × Int)) (x : List Bs × Int), s.length ≤ n → cLines s = p ++ x :: t → x.2 ≠ 0 → t = [] ∧ ∀ y ∈ p, y.2 = 0 := by
  intro n
  induction n with
  | zero =>
    intro s p t x hs h _
    obtain rfl := List.eq_nil_of_length_eq_zero (by omega : s.length = 0)
    rw [cLines_step, if_pos rfl] at h
    simp at h
  | succ n ih =>
    intro s p t x hs h hx
    rw [cLines_step] at h
    by_cases h0 : s = []
    · rw [if_pos h0] at h; simp at h
    · rw [if_neg h0] at h
      by_cases he : (cLine s []).2.2 ≠ 0
      · rw [if_pos he] at h
        rcases p with _ | ⟨y, p⟩
        · rw [List.nil_append] at h
          injection h with h1 h2
          exact ⟨h2.symm, by simp⟩
        · rw [List.cons_append] at h
          injection h with h1 h2
          simp at h2
      · rw [if_neg he] at h
        have hl := (cLine_len s.length s [] (Nat.le_refl _) (Decidable.not_not.1 he)).1
        rcases p with _ | ⟨y, p⟩
        · rw [List.nil_append] at h
          injection h with h1 h2
          rw [← h1] at hx
          exact absurd rfl hx
        · rw [List.cons_append] at h
          injection h with h1 h2
          obtain ⟨r1, r2⟩ := ih _ p t x (by omega) h2 hx
          refine ⟨r1, fun z hz => ?_⟩
          rcases List.mem_cons.1 hz with rfl | hz
          · rw [← h1]
          · exact r2 z hz
theorem bad_all (pre : List LX) (x : LX) (s : Bs) (hx : x.er ≠ 0) (hp : (pre ++ [x]).map LX.key <+: cLines s) : pre.map LX.ws = cRs s := by
  obtain ⟨t, ht⟩ := hp
  rw [List.map_append, List.append_assoc] at ht
  obtain ⟨h1, h2⟩ := cLines_bad s.length s (pre.map LX.key) t x.key (Nat.le_refl _) ht.symm hx
  have hg : ∀ y ∈ pre, y.er = 0 := fun y hy => h2 y.key (List.mem_map_of_mem hy)
  unfold cRs
  rw [← ht, List.filter_append, List.map_append, good_filter pre hg, h1]
  have : decide (x.key.2 = 0) = false := decide_eq_false hx
  simp [this]
theorem round_wide {m m' : Nat} {P : Program} {l : Nat} {f : FuncId} {tmps : Array Value} {assign body : Code} {w : World} {R : Ending → World → Prop} (l' : Nat) (h : RoundIn Fence.wide m P l f tmps assign body w R) : RoundIn (Fence.wide.inRound l') m' P l f tmps assign body w R := ⟨trivial, fun c cs _ => h.2 c cs (room_wide _)⟩
theorem lines_any (s : Bs) (w : World) : Calls Tryz.prog 23 #[.string ⟨s.toArray⟩] w fun e w' => e = .returned (.func (.func 39) #[] #[.pointer (some ⟨w.heap.size, 0, none⟩)]) ∧ w' = w.alloc (.cells #[.string ⟨s.toArray⟩] 9) := by
  go_enter Tryz.func23, Tryz.ntmps23
  go_wp2_with fail
  go_ret
  exact ⟨rfl, rfl⟩
theorem own_other {w w' : World} {row : Option Nat} {b : Nat} {e : TypeId} {size : Nat} {v : Value} {n : Nat} {xs : List Value} (h : w.ownsRow b e size v n xs) (hg : w.grownBy w' row) (hr : ∀ r, row = some r → ∃ o : Obj, w.heap[r]? = some o ∧ o.isCells = false) : w'.ownsRow b e size v n xs := by
  refine h.kept hg ?_
  rcases h.2 with ⟨rfl, _⟩ | ⟨g, c, k, rfl, _, a1, _⟩
  · exact .inl rfl
  · refine .inr fun e => ?_
    obtain ⟨o, h1, h2⟩ := hr g e.symm
    rw [a1] at h1
    cases h1
    cases h2
/-- what csv.Rows$1 holds between its rounds -/
structure RSt (J : List LX → World → Prop) (l q : Nat) (s : Bs) (pre : List LX) (X : World) : Prop where
  yld : X.cell? ⟨q, 0, none⟩ = some (.func (.yield l) #[] #[])
  num : X.cell? ⟨q + 1, 0, none⟩ = some (.int .i64 (pre.length : Int))
  froz : X.frozen? ⟨q + 1, 0, none⟩ = false
  good : ∀ x ∈ pre, x.er = 0
  j : J (numK 0 pre) X
/-- how the rounds of csv.Rows$1 may end it -/
def RStop (J Jx : List LX → World → Prop) (s : Bs) (c : Code) (xs : List LX) (X : World) : Prop :=
  c = .ret ∧ ((∃ pre, pre.map LX.ws = cRs s ∧ J (numK 0 pre) X) ∨ (xs.map LX.ws <+: cRs s ∧ Jx (numK 0 xs) X))
theorem RSt.own {J : List LX → World → Prop} {l q b : Nat} {s : Bs} (hJ : OwnTo q q 3 J) (hqb : q + 3 ≤ b) : OwnTo b (b + 2) 0 (fun pre X => RSt J l q s pre X) := by
  intro pre A B row h hg hr
  have hrow : ∀ r, row = some r → b ≤ r ∧ ∃ o : Obj, A.heap[r]? = some o ∧ o.isCells = false := fun r e => by
    obtain ⟨h1, h2⟩ := hr r e
    rcases h2 with h2 | h2
    · omega
    · exact ⟨h1, h2⟩
  exact ⟨cell_kept h.yld hg (fun r e => (hrow r e).2), cell_kept h.num hg (fun r e => (hrow r e).2), (frozen_kept h.num hg (fun r e => (hrow r e).2)).trans h.froz, h.good, hJ _ A B row h.j hg (fun r e => ⟨by have := (hrow r e).1; omega, .inr (hrow r e).2⟩)⟩
theorem RStop.own {J Jx : List LX → World → Prop} {q b : Nat} {s : Bs} (hJ : OwnTo q q 3 J) (hJx : OwnTo q q 3 Jx) (hqb : q + 3 ≤ b) (c : Code) : OwnTo b (b + 2) 0 (RStop J Jx s c) := by
  intro pre A B row h hg hr
  have hrow : ∀ r, row = some r → q ≤ r ∧ ((q ≤ r ∧ r < q + 3) ∨ ∃ o : Obj, A.heap[r]? = some o ∧ o.isCells = false) := fun r e => by
    obtain ⟨h1, h2⟩ := hr r e
    rcases h2 with h2 | h2
    · omega
    · exact ⟨by omega, .inr h2⟩
  obtain ⟨h1, h2⟩ := h
  refine ⟨h1, ?_⟩
  rcases h2 with ⟨p, a, b⟩ | ⟨a, b⟩
  · exact .inl ⟨p, a, hJ _ A B row b hg hrow⟩
  · exact .inr ⟨a, hJx _ A B row b hg hrow⟩
end Go.Proofs.YteccjdclkcipbaaGreatDoor
