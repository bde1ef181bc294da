/-
  A world for the witness of law12's rows: five tables hold what their initialisers lay.
-/
import Derived.Test.YtpdaloohgfnbhaaGreatDoorLaidH
namespace Go.Proofs.YtpdaloohgfnbhaaGreatDoor
open Go.ChangeShapes Go.WideShapes Go.ChangeAt Go.RowKit

/-- A WORLD FOR THE WITNESS: the settled one, five tables holding what their initialisers lay. -/
noncomputable def laidWorldE (os : Os) : World :=
  { World.holding Tryz.prog os ⟨#[], #[], []⟩ with heap := (((((World.holding Tryz.prog os ⟨#[], #[], []⟩).heap.modify 3 (putTab2 Rows.laid_internal_strconv_uint64pow10)).modify 4 (putTab2 Rows.laid_math_bits_deBruijn32tab)).modify 5 (putTab2 Rows.laid_math_bits_deBruijn64tab)).modify 1 (putTab2 Rows.laid_unicode_utf8_first)).modify 2 (putTab2 Rows.laid_unicode_utf8_acceptRanges) }
end Go.Proofs.YtpdaloohgfnbhaaGreatDoor
