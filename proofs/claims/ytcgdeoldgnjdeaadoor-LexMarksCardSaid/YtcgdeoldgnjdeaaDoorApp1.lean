/-
  append onto a row of the call's own, from a source that may be nil (turned from the kit's worked lemma on such a source).
-/
import Derived.Test.YtcgdeoldgnjdeaaDoorKit
import Derived.Maps.AppendAt
import Derived.Deep.AppendLies
namespace Go.Proofs.YtcgdeoldgnjdeaaDoor
open Go.RowKit

/-- a slice's address and the cells behind it -/
def Src (w : World) (A : Option Addr) (xs : List Value) : Prop := (A = none → xs = []) ∧ ∀ ad, A = some ad → ∀ j u, xs[j]? = some u → w.cell? (ad.add j) = some u
theorem Src.nil (w : World) (A : Option Addr) : Src w A [] := ⟨fun _ => rfl, fun _ _ j u h => by simp at h⟩
theorem Src.own {w : World} {base : Nat} {e : TypeId} {A : Option Addr} {n c : Nat} {xs : List Value} (h : w.ownsRow base e 1 (.slice A n c) n xs) : Src w A xs := by
  rcases h.2 with ⟨h1, h0⟩ | ⟨g, cap, cur, h1, _⟩
  · injection h1 with h1 _ _
    subst h1; subst h0
    have : xs = [] := List.eq_nil_of_length_eq_zero (by simpa using h.1)
    subst this
    exact Src.nil _ _
  · injection h1 with h1 _ _
    subst h1
    exact ⟨fun h => (by cases h), fun ad e => by injection e with e; subst e; exact h.cells rfl⟩
theorem Src.keep {w w' : World} {A : Option Addr} {xs : List Value} {B : Nat} (h : Src w A xs) (hB : ∀ ad, A = some ad → ad.block < B) (hb : Below B w w') : Src w' A xs :=
  ⟨h.1, fun ad e j u hu => by
    have hk : (ad.add j).block = ad.block := by unfold Addr.add; split <;> rfl
    rw [hb.cell (by rw [hk]; exact hB ad e)]
    exact h.2 ad e j u hu⟩
section
variable {P : Program} (w : World)
theorem run_append_src (base : Nat) (t ty e : TypeId) (i : TypeInfo) (z : Value) (bytes : Nat) (ht : P.underlying t = some (.slice e)) (hi : P.info? e = some i) (hz : i.zero = some z)
    (hsize : i.size = 1) (hby : i.bytes = bytes) (hzs : z.cells.size = 1)
    (v : Value) (n : Nat) (xs : List Value) (hown : w.ownsRow base e 1 v n xs) (A : Option Addr) (m c : Nat) (news : List Value) (hm : news.length = m) (hr : Src w A news) (h1 : ∀ u ∈ news, u.oneCell' = true)
    (h63 : n + m ≤ maxLen) (hbytes : (n + m) * bytes ≤ 140737488355328) (hbase : base ≤ w.heap.size) :
    ∃ v' w', (Builtin.append_ #[t, t] ty #[v, .slice A m c]).run P w = .ok v' w' ∧ w'.ownsRow base e 1 v' (n + m) (xs ++ news) ∧ w.grownBy w' v.ownBlock ∧ (v'.ownBlock = v.ownBlock ∨ v'.ownBlock = some w.heap.size) := by
  cases A with
  | none =>
    have hn := hr.1 rfl
    subst hn
    obtain rfl : m = 0 := by simpa using hm.symm
    refine ⟨v, w, ?_, by simpa using hown, World.grownBy.refl w _, .inl rfl⟩
    rcases hown.2 with ⟨rfl, rfl⟩ | ⟨g, cap, cur, rfl, _, _, hnc, _⟩
    · simp [Builtin.append_, run_underlying ht, sizeOf, typeInfo, hi, Builtin.lenOf, Builtin.firstCells]
    · simp [Builtin.append_, run_underlying ht, sizeOf, typeInfo, hi, Builtin.lenOf, Builtin.firstCells, hnc, storeCells]
  | some ad =>
    obtain ⟨v', w', hrun, h2, h3, _, h5⟩ := run_append_own_at (P := P) w base t ty e i z 1 bytes ht hi hz hsize hby hzs (by decide) v n xs hown ad m c news (by rw [Nat.mul_one]; exact hm) (hr.2 ad rfl) h1 h63 hbytes hbase
    exact ⟨v', w', hrun, h2, h3, h5⟩
theorem wpList_append_src {ops : Array Oper} {rest : List Oper} {o : Oper} {a : Act} {Q : Exit → Act → World → Prop} (hgd : o.guard = none) (s x : Operand) (t : TypeId)
    (ho : o.op = .call { callee := .builtin .append, args := #[s, x], argTypes := #[t, t] })
    (base : Nat) (e : TypeId) (i : TypeInfo) (z : Value) (bytes : Nat) (ht : P.underlying t = some (.slice e)) (hi : P.info? e = some i) (hz : i.zero = some z)
    (hsize : i.size = 1) (hby : i.bytes = bytes) (hzs : z.cells.size = 1)
    (v : Value) (n : Nat) (xs : List Value) (hs : a.eval s = v) (hown : w.ownsRow base e 1 v n xs)
    (A : Option Addr) (m c : Nat) (news : List Value) (hx : a.eval x = .slice A m c) (hm : news.length = m) (hr : Src w A news) (h1 : ∀ u ∈ news, u.oneCell' = true)
    (h63 : n + m ≤ maxLen) (hbytes : (n + m) * bytes ≤ 140737488355328) (hbase : base ≤ w.heap.size)
    (h : ∀ v' w', w'.ownsRow base e 1 v' (n + m) (xs ++ news) → w.grownBy w' v.ownBlock → (v'.ownBlock = v.ownBlock ∨ v'.ownBlock = some w.heap.size) → wpList P ops Q rest (a.put o.dst v') w') : wpList P ops Q (o :: rest) a w :=
  wpList_plain hgd fun _ hK => by
    obtain ⟨v', w', hrun, h2, h3, h4⟩ := run_append_src (P := P) w base t o.type e i z bytes ht hi hz hsize hby hzs v n xs hown A m c news hm hr h1 h63 hbytes hbase
    unfold Oper.wp execOp
    simp only [ho, resolve, invoke, builtin, Sem.run_bind, Sem.run_pure, Result.andThen_ok, List.map_toArray, List.map_cons, List.map_nil, hs, hx, hrun]
    exact hK _ _ (h v' w' h2 h3 h4)
end
end Go.Proofs.YtcgdeoldgnjdeaaDoor
