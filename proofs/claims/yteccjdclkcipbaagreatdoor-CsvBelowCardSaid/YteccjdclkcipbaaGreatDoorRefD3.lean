/-
  counterpaneref01.wide, less, Neg, level, Plus: what they return; the digit steps of adding and taking away.
-/
import Derived.Test.YteccjdclkcipbaaGreatDoorRefA3
import Derived.Test.YteccjdclkcipbaaGreatDoorRefA6
import Derived.Test.YteccjdclkcipbaaGreatDoorPlainW
namespace Go.Proofs.YteccjdclkcipbaaGreatDoor
open Go.RowKit

theorem ISl.src {w : World} {A : Option Addr} {cap : Nat} {L : List Nat} (h : ISl w 0 A cap L) : Src w A (L.map intV) := by
  rcases Nat.eq_zero_or_pos L.length with z | z
  · rw [List.eq_nil_of_length_eq_zero z]
    exact Src.nil _ _
  · obtain ⟨b, off, hA, _, _, hr⟩ := h.2.2 z
    rw [hA]
    exact IRow.src hr
theorem ISl.far {w : World} {A : Option Addr} {cap : Nat} {L : List Nat} (h : ISl w 0 A cap L) : 0 < L.length → ∀ ad, A = some ad → ad.block < w.heap.size := by
  intro hp ad e
  obtain ⟨b, off, hA, _, hb, _⟩ := h.2.2 hp
  rw [hA] at e
  injection e with e
  subst e
  exact hb
theorem Src.keep' {w w' : World} {A : Option Addr} {L : List Nat} {cap : Nat} (h : ISl w 0 A cap L) (hb : Below w.heap.size w w') : Src w' A (L.map intV) := by
  rcases Nat.eq_zero_or_pos L.length with z | z
  · rw [List.eq_nil_of_length_eq_zero z]
    exact Src.nil _ _
  · exact h.src.keep (h.far z) hb
theorem natOf_cmp_cons (x y : Nat) (L M : List Nat) (hl : L.length = M.length) (hL : Dig L) (h : x < y) : natOf (x :: L) < natOf (y :: M) := by
  rw [natOf_cons, natOf_cons, hl]
  have h1 := natOf_lt L hL
  have h2 : (x + 1) * 10 ^ M.length ≤ y * 10 ^ M.length := Nat.mul_le_mul_right _ h
  rw [Nat.add_mul] at h2
  rw [hl] at h1
  omega
/-- two numbers whose first digits are alike are held by the others -/
theorem natOf_at {L M : List Nat} (hl : L.length = M.length) (hL : Dig L) (k : Nat) (hk : k < L.length) (hk' : k < M.length) (hs : L.take k = M.take k) (h : L[k] < M[k]) : natOf L < natOf M := by
  have e1 : L = L.take k ++ L[k] :: L.drop (k + 1) := by rw [← List.drop_eq_getElem_cons hk, List.take_append_drop]
  have e2 : M = M.take k ++ M[k] :: M.drop (k + 1) := by rw [← List.drop_eq_getElem_cons hk', List.take_append_drop]
  have h1 := natOf_cmp_cons L[k] M[k] (L.drop (k + 1)) (M.drop (k + 1)) (by simp [hl]) (hL.drop _) h
  have q1 := congrArg natOf e1
  have q2 := congrArg natOf e2
  rw [natOf_append] at q1 q2
  rw [hs] at q1
  simp only [List.length_cons, List.length_drop, hl] at q1 q2
  omega
theorem Own.lt {w : World} {base : Nat} {v : Value} {L : List Nat} (h : Own w base v L) : ∀ g, v.ownBlock = some g → g < w.heap.size := by
  intro g hg
  rcases h.2 with ⟨rfl, _⟩ | ⟨g', cap, cur, rfl, _, hh, _⟩
  · simp [Value.ownBlock] at hg
  · simp [Value.ownBlock] at hg
    subst hg
    exact (Array.getElem?_eq_some_iff.1 hh).1
theorem Own.next {w w' : World} {base : Nat} {v : Value} {L : List Nat} (h : Own w base v L) (hb : Below w.heap.size w w') : Own w' base v L := by
  obtain ⟨h1, h2⟩ := h
  refine ⟨h1, ?_⟩
  rcases h2 with h2 | ⟨g, cap, cur, hv, hg, hh, r⟩
  · exact .inl h2
  · exact .inr ⟨g, cap, cur, hv, hg, (hb.block g (Array.getElem?_eq_some_iff.1 hh).1).trans hh, r⟩
theorem Own.isl {w : World} {base : Nat} {v : Value} {L : List Nat} (h : Own w base v L) : ∃ A c, v = .slice A L.length c ∧ ISl w 0 A c L := by
  rcases Nat.eq_zero_or_pos L.length with z | z
  · rcases h.2 with ⟨rfl, _⟩ | ⟨g, cap, cur, rfl, hg, hh, hnc, hcm, _⟩
    · exact ⟨none, 0, by rw [z], by omega, by decide, fun h => by omega⟩
    · exact ⟨_, cap, rfl, hnc, hcm, fun h => by omega⟩
  · obtain ⟨g, cap, e, hs, _⟩ := own_isl (base := 0) h (Nat.zero_le _) z
    exact ⟨_, cap, e, hs⟩
theorem ISl.carry {w w' : World} {A : Option Addr} {cap : Nat} {L : List Nat} (h : ISl w 0 A cap L) (hb : Below w.heap.size w w') : ISl w' 0 A cap L := by
  refine ⟨h.1, h.2.1, fun hp => ?_⟩
  obtain ⟨b, off, h1, h0, h2, h3⟩ := h.2.2 hp
  exact ⟨b, off, h1, h0, Nat.lt_of_lt_of_le h2 hb.size, fun j hj => ⟨(hb.cell (p := ⟨_, _, none⟩) h2).trans (h3 j hj).1, (hb.frozen (p := ⟨_, _, none⟩) h2).trans (h3 j hj).2⟩⟩
/-- a nought ahead: what the append leaves -/
theorem pad_step {wr w1 : World} {base : Nat} {v' : Value} {X : List Nat} (h1 : w1.ownsRow base 3 1 v' (1 + X.length) ([.int .i64 0] ++ X.map intV)) (hg : (wr.alloc (.cells #[.int .i64 0] 3)).grownBy w1 (Value.slice (some ⟨wr.heap.size, 0, none⟩) 1 1).ownBlock) :
    Own w1 base v' (0 :: X) ∧ Below wr.heap.size wr w1 := by
  refine ⟨?_, ((Below.refl _ wr).alloc (Nat.le_refl _) _).grown hg (by simp) (fun k h => by simp [Value.ownBlock] at h; omega)⟩
  unfold Own
  rw [List.length_cons, Nat.add_comm, List.map_cons]
  exact h1
theorem natOf_pad (j : Nat) (X : List Nat) : natOf (List.replicate j 0 ++ X) = natOf X := by rw [natOf_append, natOf_zeros]; simp
theorem natOf_wide (X : List Nat) (k : Nat) : natOf (X ++ List.replicate k 0) = natOf X * 10 ^ k := by rw [natOf_append, natOf_zeros, List.length_replicate]; simp
/-- what level leaves -/
def LevelPost (L M : List Nat) (ea eb : Int) (w : World) (x : Ending) (w' : World) : Prop :=
  ∃ (A B : Option Addr) (ca cb : Nat) (X Y : List Nat) (e : Int), x = .returned (.tuple #[.slice A X.length ca, .slice B Y.length cb, .int .i64 e]) ∧ ISl w' 0 A ca X ∧ ISl w' 0 B cb Y ∧ X.length = Y.length ∧ X.length ≤ 4000 ∧ Dig X ∧ Dig Y ∧
    e = (if eb < ea then eb else ea) ∧ natOf X = natOf L * 10 ^ (ea - e).toNat ∧ natOf Y = natOf M * 10 ^ (eb - e).toNat ∧ Below w.heap.size w w'
theorem drop_nat (X : List Nat) (m : Nat) (h : m < X.length) : natOf (X.drop m) = X[m] * 10 ^ (X.length - (m + 1)) + natOf (X.drop (m + 1)) := by
  rw [List.drop_eq_getElem_cons h, natOf_cons, List.length_drop]
/-- a digit more of a sum -/
theorem add_step {X Y Z : List Nat} {m c s : Nat} (hX : m < X.length) (hY : m < Y.length) (hl : X.length = Y.length) (hZ : Z.length = X.length - (m + 1)) (hs : X[m] + Y[m] + c = s)
    (h : natOf Z + c * 10 ^ (X.length - (m + 1)) = natOf (X.drop (m + 1)) + natOf (Y.drop (m + 1))) :
    natOf (s % 10 :: Z) + s / 10 * 10 ^ (X.length - m) = natOf (X.drop m) + natOf (Y.drop m) := by
  rw [natOf_cons, hZ, drop_nat X m hX, drop_nat Y m hY, ← hl, show X.length - m = (X.length - (m + 1)) + 1 by omega, Nat.pow_succ]
  generalize 10 ^ (X.length - (m + 1)) = p at *
  have e1 : s % 10 * p + s / 10 * (p * 10) = s * p := by
    have := Nat.div_add_mod s 10
    have e2 : s / 10 * (p * 10) = 10 * (s / 10) * p := by rw [Nat.mul_comm p 10, ← Nat.mul_assoc, Nat.mul_comm (s / 10) 10]
    rw [e2, ← Nat.add_mul, Nat.add_comm, this]
  have e3 : s * p = X[m] * p + Y[m] * p + c * p := by rw [← hs, Nat.add_mul, Nat.add_mul]
  omega
/-- a digit more of a difference: nothing is lent -/
theorem sub_step0 {X Y Z : List Nat} {m c s : Nat} (hX : m < X.length) (hY : m < Y.length) (hl : X.length = Y.length) (hZ : Z.length = X.length - (m + 1)) (hs : X[m] = Y[m] + c + s)
    (h : natOf Z + natOf (Y.drop (m + 1)) = natOf (X.drop (m + 1)) + c * 10 ^ (X.length - (m + 1))) :
    natOf (s :: Z) + natOf (Y.drop m) = natOf (X.drop m) + 0 * 10 ^ (X.length - m) := by
  rw [natOf_cons, hZ, drop_nat X m hX, drop_nat Y m hY, ← hl]
  generalize 10 ^ (X.length - (m + 1)) = p at *
  have e3 : X[m] * p = Y[m] * p + c * p + s * p := by rw [hs, Nat.add_mul, Nat.add_mul]
  omega
/-- a ten is lent -/
theorem sub_step1 {X Y Z : List Nat} {m c s : Nat} (hX : m < X.length) (hY : m < Y.length) (hl : X.length = Y.length) (hZ : Z.length = X.length - (m + 1)) (hs : X[m] + 10 = Y[m] + c + s)
    (h : natOf Z + natOf (Y.drop (m + 1)) = natOf (X.drop (m + 1)) + c * 10 ^ (X.length - (m + 1))) :
    natOf (s :: Z) + natOf (Y.drop m) = natOf (X.drop m) + 1 * 10 ^ (X.length - m) := by
  rw [natOf_cons, hZ, drop_nat X m hX, drop_nat Y m hY, ← hl, show X.length - m = (X.length - (m + 1)) + 1 by omega, Nat.pow_succ]
  generalize 10 ^ (X.length - (m + 1)) = p at *
  have e3 : X[m] * p + 10 * p = Y[m] * p + c * p + s * p := by rw [← Nat.add_mul, hs, Nat.add_mul, Nat.add_mul]
  omega
theorem set_pad (m d : Nat) (Z : List Nat) : (List.replicate (m + 2) 0 ++ Z).set (m + 1) d = List.replicate (m + 1) 0 ++ d :: Z := by
  rw [show m + 2 = (m + 1) + 1 by omega, List.replicate_succ', List.append_assoc, List.set_append_right (h := by simp), List.length_replicate, Nat.sub_self]
  rfl
/-- a sum, or a difference: its sign, and its size -/
def plusIs (na nb : Bool) (X Y : Nat) : Bool × Nat := if na = nb then (na, X + Y) else if X < Y then (nb, Y - X) else (na, X - Y)
theorem make_ints (n : Nat) (w : World) (hn : n ≤ 100000) : ∃ W : World, (Instr.makeSlice 89 (.int .i64 ((n : Int) + 1)) (.int .i64 ((n : Int) + 1))).run Tryz.prog w = .ok (.slice (some ⟨w.heap.size, 0, none⟩) (n + 1) (n + 1)) W ∧ IRow W w.heap.size 0 (List.replicate (n + 1) 0) ∧ Below w.heap.size w W ∧ w.heap.size < W.heap.size := by
  obtain ⟨i0, hi, hz0, hz1, hz2⟩ := info_parts infoI64
  have h := run_make (P := Tryz.prog) w 89 3 i0 (.int .i64 0) Tryz.underlying89 hi hz0 .i64 .i64 ((n : Int) + 1) ((n : Int) + 1) (by omega) (Int.le_refl _) (by rw [hz2]; omega) (by omega)
  have e : ((n : Int) + 1).toNat = n + 1 := by omega
  rw [e, hz1, Nat.mul_one] at h
  refine ⟨_, h, ?_, (Below.refl _ w).alloc (Nat.le_refl _) _, by simp⟩
  intro j hj
  have hl := Lies.new w 3 (madeCells (Value.int .i64 0).cells (n + 1))
  refine ⟨?_, hl.frozen _⟩
  rw [hl.cell, Nat.zero_add]
  rw [List.length_replicate] at hj
  simp [madeCells, hj, Value.cells, intV, Nat.mod_one]
/-- what Plus leaves -/
def PlusPost (na nb : Bool) (L M : List Nat) (ea eb : Int) (w : World) (x : Ending) (w' : World) : Prop :=
  ∃ (ng : Bool) (A : Option Addr) (c : Nat) (D : List Nat) (e : Int), x = .returned (.agg #[.bool ng, .slice A D.length c, .int .i64 e]) ∧ ISl w' 0 A c D ∧ Dig D ∧ D.length ≤ 5000 ∧ e = (if eb < ea then eb else ea) ∧
    (ng, natOf D) = plusIs na nb (natOf L * 10 ^ (ea - e).toNat) (natOf M * 10 ^ (eb - e).toNat) ∧ Below w.heap.size w w'
/-- the boxes of the two decimals, and the result's block -/
structure PIn3 (w : World) (ca cb : Array Value) (wr : World) : Prop where
  a : Lies wr w.heap.size 91 ca
  b : Lies wr (w.heap.size + 1) 91 cb
  r : Lies wr (w.heap.size + 2) 91 #[.bool false, .slice none 0 0, .int .i64 0]
  bel : Below w.heap.size w wr
theorem PIn3.next {w w' w'' : World} {ca cb : Array Value} {B : Nat} (h : PIn3 w ca cb w') (hb : Below B w' w'') (hB : w.heap.size + 2 < B) : PIn3 w ca cb w'' :=
  ⟨(hb.block _ (by omega)).trans h.a, (hb.block _ (by omega)).trans h.b, (hb.block _ (by omega)).trans h.r, h.bel.trans (hb.mono (by omega))⟩
theorem PIn3.put {w w' : World} {ca cb : Array Value} (h : PIn3 w ca cb w') {p : Addr} (hp : w.heap.size + 2 < p.block) (u : Value) : PIn3 w ca cb (w'.setCell p u) :=
  ⟨(Below.heap_setCell _ _ _ _ (by omega)).trans h.a, (Below.heap_setCell _ _ _ _ (by omega)).trans h.b, (Below.heap_setCell _ _ _ _ (by omega)).trans h.r, h.bel.setCell (by omega) _⟩
end Go.Proofs.YteccjdclkcipbaaGreatDoor
