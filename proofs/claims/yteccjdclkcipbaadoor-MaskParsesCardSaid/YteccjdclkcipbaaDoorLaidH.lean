/-
  What a row that lists the tables of package utf8 and of the faults' texts gives; a world for the witness; the library's variable MaxLen holds a number.
-/
import Derived.Test.YteccjdclkcipbaaDoorLaidF
import Derived.Test.YteccjdclkcipbaaDoorNum10
namespace Go.Proofs.YteccjdclkcipbaaDoor
open Go.ChangeShapes Go.WideShapes Go.ChangeAt Go.RowKit

theorem max_of_shaped {W : World} (h : W.ShapedOpen Tryd.prog) : MaxVar W :=
  Go.Proofs.cell_of_shapedOpen_int (zero := #[.int .i64 0]) (t := 3) h (of_decide_eq_true (by kernel_rfl)) (by kernel_rfl) rfl (by kernel_rfl) (by kernel_rfl) Tryd.underlying3
def cells1 : DataW Unit → List Value
  | .lit (.int k z) => [.int k z]
  | .lit (.string s) => [.string ⟨s.toArray⟩]
  | .agg l => l.map fun d => match d with | .lit (.int k z) => Value.int k z | .lit (.string s) => Value.string ⟨s.toArray⟩ | _ => Value.bool false
  | _ => []
def tabCells2 : DataW Unit → Array Value
  | .agg l => (l.flatMap cells1).toArray
  | _ => #[]
def putTab2 (d : DataW Unit) : Obj → Obj
  | .cells _ t frozen => .cells (tabCells2 d) t frozen
  | o => o
/-- A WORLD FOR THE WITNESS: the settled one, the tables holding what their initialisers lay. -/
noncomputable def laidWorldC (os : Os) : World :=
  { World.holding Tryd.prog os ⟨#[], #[], []⟩ with heap := (((World.holding Tryd.prog os ⟨#[], #[], []⟩).heap.modify 0 (putTab2 Rows.laid_counterpane_value_faultTexts)).modify 7 (putTab2 Rows.laid_unicode_utf8_first)).modify 8 (putTab2 Rows.laid_unicode_utf8_acceptRanges) }
end Go.Proofs.YteccjdclkcipbaaDoor
