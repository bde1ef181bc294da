/-
  value.truthOrder, beside, Of, Text, Truth, Bad: what they return.
-/
import Derived.Test.YtcgdeoldgnjdeaaDoorNum2
import Derived.Test.YtcgdeoldgnjdeaaDoorVal2
namespace Go.Proofs.YtcgdeoldgnjdeaaDoor
open Go.RowKit

structure Val where
  kind : Int
  mant : Int
  exp : Int
  text : Bs
  truth : Bool
  fault : Int
def zeroVal : Val := ⟨0, 0, 0, [], false, 0⟩
abbrev valC (v : Val) : Array Value := #[.int .i64 v.kind, .int .i64 v.mant, .int .i64 v.exp, .string ⟨v.text.toArray⟩, .bool v.truth, .int .i64 v.fault]
abbrev valV (v : Val) : Value := .agg (valC v)

def pTruthOrder (a b : Bool) : Int := if a = b then 0 else if b then -1 else 1
set_option maxHeartbeats 400000 in
theorem truthOrder_any (a b : Bool) (w : World) :
    Calls Tryd.prog 75 #[.bool a, .bool b] w fun e w' => e = .returned (.int .i64 (pTruthOrder a b)) ∧ w = w' := by
  cases a <;> cases b
  all_goals go_enter Tryd.func75, Tryd.ntmps75
  all_goals go_wp2
  all_goals go_ret
  all_goals exact ⟨rfl, rfl⟩
def pBeside (v u : Val) : Val := if v.kind ≠ 0 then v else if u.kind = 1 ∨ u.kind = 2 ∨ u.kind = 3 then ⟨u.kind, 0, 0, [], false, 0⟩ else v
set_option maxRecDepth 100000 in
set_option maxHeartbeats 800000 in
theorem beside_any (v u : Val) (w : World) :
    Calls Tryd.prog 73 #[valV v, valV u] w fun e w' => e = .returned (valV (pBeside v u)) ∧ Below w.heap.size w w' := by
  have hN : pBeside v u = if v.kind ≠ 0 then v else if u.kind = 1 ∨ u.kind = 2 ∨ u.kind = 3 then ⟨u.kind, 0, 0, [], false, 0⟩ else v := rfl
  have HN := Lib.hid hN
  clear hN
  generalize pBeside v u = r at *
  obtain ⟨k, m, x, t, b, f⟩ := v
  obtain ⟨k2, m2, x2, t2, b2, f2⟩ := u
  simp only at HN
  by_cases h0 : k ≠ 0
  · rw [if_pos h0] at HN
    have e0 : (k != 0) = true := by rw [bne_iff_ne]; exact h0
    clear h0
    go_enter Tryd.func73, Tryd.ntmps73
    go_wp2
    refine bodyPost_ret (v := .agg #[.int .i64 k, .int .i64 m, .int .i64 x, .string ⟨t.toArray⟩, .bool b, .int .i64 f]) (by simp [results, Tryd.results73, go_sem]) rfl ?_
    exact ⟨by rw [HN.out], (((Below.refl _ w).alloc (Nat.le_refl _) _).alloc (by simp) _).alloc (by simp; omega) _⟩
  · rw [if_neg h0] at HN
    have hz : k = 0 := by omega
    subst hz
    clear h0
    by_cases h1 : k2 = 1
    · rw [if_pos (.inl h1)] at HN
      subst h1
      go_enter Tryd.func73, Tryd.ntmps73
      go_wp2
      refine bodyPost_ret (v := .agg #[.int .i64 1, .int .i64 0, .int .i64 0, .string ⟨#[]⟩, .bool false, .int .i64 0]) (by simp [results, Tryd.results73, go_sem]) rfl ?_
      exact ⟨by rw [HN.out], (((Below.refl _ w).alloc (Nat.le_refl _) _).alloc (by simp) _).alloc (by simp; omega) _⟩
    by_cases h2 : k2 = 2
    · rw [if_pos (.inr (.inl h2))] at HN
      subst h2
      go_enter Tryd.func73, Tryd.ntmps73
      go_wp2
      refine bodyPost_ret (v := .agg #[.int .i64 2, .int .i64 0, .int .i64 0, .string ⟨#[]⟩, .bool false, .int .i64 0]) (by simp [results, Tryd.results73, go_sem]) rfl ?_
      exact ⟨by rw [HN.out], (((Below.refl _ w).alloc (Nat.le_refl _) _).alloc (by simp) _).alloc (by simp; omega) _⟩
    by_cases h3 : k2 = 3
    · rw [if_pos (.inr (.inr h3))] at HN
      subst h3
      go_enter Tryd.func73, Tryd.ntmps73
      go_wp2
      refine bodyPost_ret (v := .agg #[.int .i64 3, .int .i64 0, .int .i64 0, .string ⟨#[]⟩, .bool false, .int .i64 0]) (by simp [results, Tryd.results73, go_sem]) rfl ?_
      exact ⟨by rw [HN.out], (((Below.refl _ w).alloc (Nat.le_refl _) _).alloc (by simp) _).alloc (by simp; omega) _⟩
    · rw [if_neg (by omega)] at HN
      have e1 : (k2 == 1) = false := by rw [beq_eq_false_iff_ne]; exact h1
      have e2 : (k2 == 2) = false := by rw [beq_eq_false_iff_ne]; exact h2
      have e3 : (k2 == 3) = false := by rw [beq_eq_false_iff_ne]; exact h3
      clear h1 h2 h3
      go_enter Tryd.func73, Tryd.ntmps73
      go_wp2
      refine bodyPost_ret (v := .agg #[.int .i64 0, .int .i64 m, .int .i64 x, .string ⟨t.toArray⟩, .bool b, .int .i64 f]) (by simp [results, Tryd.results73, go_sem]) rfl ?_
      exact ⟨by rw [HN.out], (((Below.refl _ w).alloc (Nat.le_refl _) _).alloc (by simp) _).alloc (by simp; omega) _⟩

end Go.Proofs.YtcgdeoldgnjdeaaDoor
