/-
  What a row that lists the tables of powers of ten, of bits, and of the faults' texts gives: the tables lie in memory; a world for the witness.
-/
import Derived.Test.YteccjdclkcipbaaDoorLaidF
import Derived.Test.YteccjdclkcipbaaDoorNum10
namespace Go.Proofs.YteccjdclkcipbaaDoor
open Go.ChangeShapes Go.WideShapes Go.ChangeAt Go.RowKit

theorem gPowType : (Tryd.prog.globals[2]?).map (·.type) = some 183 := by kernel_rfl
theorem pow_of_laid {laid : List (String × DataW Unit)} {W : World} (h : laidMet Tryd.prog laid W) (hm : ("internal/strconv.uint64pow10", Rows.laid_internal_strconv_uint64pow10) ∈ laid) : PowTab W := by
  obtain ⟨ps, hl, _⟩ := h
  obtain ⟨g, t, cs, fuel, p, h1, h2, h3, h4⟩ := laid_mem hl hm
  obtain rfl := Option.some.inj (gPow.symm.trans h1)
  obtain rfl := Option.some.inj (gPowType.symm.trans h2)
  have hcs := Lib.cells_of_tab (zs := Lib.pow10Tab) Tryd.underlying183 Tryd.underlying72 (by kernel_rfl) (by kernel_rfl) h4
  unfold PowTab Lib.TabIs
  rw [h3, ← hcs]
def tabCells : DataW Unit → Array Value
  | .agg l => (l.map fun d => match d with | .lit (.int k z) => Value.int k z | .lit (.string s) => Value.string ⟨s.toArray⟩ | _ => Value.bool false).toArray
  | _ => #[]
def putTab (d : DataW Unit) : Obj → Obj
  | .cells _ t frozen => .cells (tabCells d) t frozen
  | o => o
/-- A WORLD FOR THE WITNESS: the settled one, the tables holding what their initialisers lay. -/
noncomputable def laidWorldB (os : Os) : World :=
  { World.holding Tryd.prog os ⟨#[], #[], []⟩ with heap := (((((World.holding Tryd.prog os ⟨#[], #[], []⟩).heap.modify 0 (putTab Rows.laid_counterpane_value_faultTexts)).modify 2 (putTab Rows.laid_internal_strconv_uint64pow10)).modify 5 (putTab Rows.laid_math_bits_deBruijn32tab)).modify 6 (putTab Rows.laid_math_bits_deBruijn64tab)) }
end Go.Proofs.YteccjdclkcipbaaDoor
