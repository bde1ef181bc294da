/-
  value.Same, counterpaneref02.Same: what they return.
-/
import Derived.Test.YtcgdeoldgnjdeaaDoorVal6
import Derived.Test.YtcgdeoldgnjdeaaDoorRefB1
namespace Go.Proofs.YtcgdeoldgnjdeaaDoor
open Go.RowKit

/-- are two values the same, field by field? -/
def vSame (a b : Val) : Bool := (a.kind == b.kind) && (a.mant == b.mant) && (a.exp == b.exp) && (a.text == b.text) && (a.truth == b.truth) && (a.fault == b.fault)
theorem vSame_self (a : Val) : vSame a a = true := by simp [vSame]
theorem vSame_iff (a b : Val) : vSame a b = true ↔ a = b := by
  constructor
  · intro h
    obtain ⟨k, m, x, t, tr, f⟩ := a
    obtain ⟨k2, m2, x2, t2, tr2, f2⟩ := b
    simp [vSame] at h
    obtain ⟨⟨⟨⟨⟨rfl, rfl⟩, rfl⟩, rfl⟩, rfl⟩, rfl⟩ := h
    rfl
  · intro h; rw [h]; exact vSame_self b
set_option maxRecDepth 100000 in
/-- two values held against each other -/
theorem run_eql_value (a b : Val) (w : World) : (binOp .eql 41 (valV a) (valV b)).run Tryd.prog w = .ok (.bool (vSame a b)) w := by
  obtain ⟨k, m, x, t, tr, f⟩ := a
  obtain ⟨k2, m2, x2, t2, tr2, f2⟩ := b
  go_simp
  by_cases h0 : k = k2
  case neg => simp [vSame, h0]
  by_cases h1 : m = m2
  case neg => simp [vSame, h0, h1]
  by_cases h2 : x = x2
  case neg => simp [vSame, h0, h1, h2]
  by_cases h3 : t = t2
  case neg => simp [vSame, h0, h1, h2, h3]
  by_cases h4 : tr = tr2
  case neg => simp [vSame, h0, h1, h2, h3, h4]
  by_cases h5 : f = f2
  case neg => simp [vSame, h0, h1, h2, h3, h4, h5]
  simp [vSame, h0, h1, h2, h3, h4, h5]
set_option maxRecDepth 100000 in
set_option maxHeartbeats 1600000 in
theorem same02_any (a b : Val) (w : World) :
    Calls Tryd.prog 36 #[valV a, valV b] w fun e w' => e = .returned (.bool (vSame a b)) ∧ Below w.heap.size w w' := by
  have HN : Hid (∀ W, (binOp .eql 41 (valV a) (valV b)).run Tryd.prog W = .ok (.bool (vSame a b)) W) := Lib.hid (run_eql_value a b)
  generalize vSame a b = r at *
  obtain ⟨k, m, x, t, tr, f⟩ := a
  obtain ⟨k2, m2, x2, t2, tr2, f2⟩ := b
  have hE := HN.out
  dsimp only [valV, valC] at hE
  go_enter Tryd.func36, Tryd.ntmps36
  go_wp2_with fail
  go_ret
  exact ⟨rfl, ((Below.refl _ w).alloc (Nat.le_refl _) _).alloc (by simp) _⟩
set_option maxRecDepth 100000 in
set_option maxHeartbeats 3200000 in
theorem rSame_any (a b : Val) (w : World) :
    Calls Tryd.prog 27 #[valV a, valV b] w fun e w' => e = .returned (.bool (vSame a b)) ∧ Below w.heap.size w w' := by
  have HN : Hid (vSame a b = ((a.kind == b.kind) && (a.mant == b.mant) && (a.exp == b.exp) && (a.text == b.text) && (a.truth == b.truth) && (a.fault == b.fault))) := Lib.hid rfl
  have HB : Hid (Below w.heap.size w ((w.alloc (.cells (valC a) 41)).alloc (.cells (valC b) 41))) := Lib.hid (((Below.refl _ w).alloc (Nat.le_refl _) _).alloc (by simp) _)
  generalize vSame a b = r at *
  obtain ⟨k, m, x, t, tr, f⟩ := a
  obtain ⟨k2, m2, x2, t2, tr2, f2⟩ := b
  dsimp only at HN
  cases c1 : (k == k2)
  · rw [c1] at HN
    go_enter Tryd.func27, Tryd.ntmps27
    go_wp2_with fail
    go_ret
    exact ⟨ret_bool (by rw [HN.out]; rfl), HB.out⟩
  cases c2 : (m == m2)
  · rw [c1, c2] at HN
    go_enter Tryd.func27, Tryd.ntmps27
    go_wp2_with fail
    go_ret
    exact ⟨ret_bool (by rw [HN.out]; rfl), HB.out⟩
  cases c3 : (x == x2)
  · rw [c1, c2, c3] at HN
    go_enter Tryd.func27, Tryd.ntmps27
    go_wp2_with fail
    go_ret
    exact ⟨ret_bool (by rw [HN.out]; rfl), HB.out⟩
  cases c4 : (t == t2)
  · rw [c1, c2, c3, c4] at HN
    go_enter Tryd.func27, Tryd.ntmps27
    go_wp2_with fail
    go_ret
    exact ⟨ret_bool (by rw [HN.out]; rfl), HB.out⟩
  cases c5 : (tr == tr2)
  · rw [c1, c2, c3, c4, c5] at HN
    go_enter Tryd.func27, Tryd.ntmps27
    go_wp2_with fail
    go_ret
    exact ⟨ret_bool (by rw [HN.out]; rfl), HB.out⟩
  rw [c1, c2, c3, c4, c5] at HN
  go_enter Tryd.func27, Tryd.ntmps27
  go_wp2_with fail
  go_ret
  exact ⟨ret_bool (by rw [HN.out]; rfl), HB.out⟩
end Go.Proofs.YtcgdeoldgnjdeaaDoor
