/-
  value.Same, counterpaneref02.Same: what they return.
-/
import Derived.Test.YteccjdclkcipbaaDoorVal6
import Derived.Test.YteccjdclkcipbaaDoorRefB1
namespace Go.Proofs.YteccjdclkcipbaaDoor
open Go.RowKit

/-- are two values the same, field by field? -/
def vSame (a b : Val) : Bool := (a.kind == b.kind) && (a.mant == b.mant) && (a.exp == b.exp) && (a.text == b.text) && (a.truth == b.truth) && (a.fault == b.fault)
theorem vSame_self (a : Val) : vSame a a = true := by simp [vSame]
theorem vSame_iff (a b : Val) : vSame a b = true ↔ a = b := by
  constructor
  · intro h
    obtain ⟨k, m, x, t, tr, f⟩ := a
    obtain ⟨k2, m2, x2, t2, tr2, f2⟩ := b
    simp [vSame] at h
    obtain ⟨⟨⟨⟨⟨rfl, rfl⟩, rfl⟩, rfl⟩, rfl⟩, rfl⟩ := h
    rfl
  · intro h; rw [h]; exact vSame_self b
set_option maxRecDepth 100000 in
/-- two values held against each other -/
theorem run_eql_value (a b : Val) (w : World) : (binOp .eql 27 (valV a) (valV b)).run Tryd.prog w = .ok (.bool (vSame a b)) w := by
  obtain ⟨k, m, x, t, tr, f⟩ := a
  obtain ⟨k2, m2, x2, t2, tr2, f2⟩ := b
  go_simp
  by_cases h0 : k = k2
  case neg => simp [vSame, h0]
  by_cases h1 : m = m2
  case neg => simp [vSame, h0, h1]
  by_cases h2 : x = x2
  case neg => simp [vSame, h0, h1, h2]
  by_cases h3 : t = t2
  case neg => simp [vSame, h0, h1, h2, h3]
  by_cases h4 : tr = tr2
  case neg => simp [vSame, h0, h1, h2, h3, h4]
  by_cases h5 : f = f2
  case neg => simp [vSame, h0, h1, h2, h3, h4, h5]
  simp [vSame, h0, h1, h2, h3, h4, h5]
set_option maxRecDepth 100000 in
set_option maxHeartbeats 1600000 in
theorem same02_any (a b : Val) (w : World) :
    Calls Tryd.prog 22 #[valV a, valV b] w fun e w' => e = .returned (.bool (vSame a b)) ∧ Below w.heap.size w w' := by
  have HN : Hid (∀ W, (binOp .eql 27 (valV a) (valV b)).run Tryd.prog W = .ok (.bool (vSame a b)) W) := Lib.hid (run_eql_value a b)
  generalize vSame a b = r at *
  obtain ⟨k, m, x, t, tr, f⟩ := a
  obtain ⟨k2, m2, x2, t2, tr2, f2⟩ := b
  have hE := HN.out
  dsimp only [valV, valC] at hE
  go_enter Tryd.func22, Tryd.ntmps22
  go_wp2_with fail
  go_ret
  exact ⟨rfl, ((Below.refl _ w).alloc (Nat.le_refl _) _).alloc (by simp) _⟩
end Go.Proofs.YteccjdclkcipbaaDoor
