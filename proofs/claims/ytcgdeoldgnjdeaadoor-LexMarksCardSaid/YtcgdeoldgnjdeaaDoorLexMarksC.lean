/-
  The call of LexMarks, for every input.
-/
import Derived.Test.YtcgdeoldgnjdeaaDoorLexMarksW
import Derived.Test.YtcgdeoldgnjdeaaDoorLaidG
import Derived.Test.YtcgdeoldgnjdeaaDoorOpenM
namespace Go.Proofs.YtcgdeoldgnjdeaaDoor.lexMarks
open Go.ChangeShapes Go.WideShapes Go.ChangeAt Go.RowKit
open Go.ChangeMaps (open_string shut_string)

set_option maxRecDepth 100000 in
/-- WHAT THE WALKS GIVE. -/
theorem contract (H : Type) (enc : TypeId × Value → H) (W : World) (base : Nat) (args : Array Value) (ds gs : List (DataW H)) (before : List MemPlace)
    (hval : ∀ (j : Nat) t v, Tryd.f13.params[j]? = some t → args[j]? = some v → Value.okWide Tryd.prog W .any base t v)
    (hW : DataW.Whole enc Tryd.prog Tryd.f13.params.toList Rows.lexMarksSpec.vars false W args.toList ds gs before) (hL : laidMetH Tryd.prog Rows.lexMarksRow.laid W) :
    Calls Tryd.prog 13 args W fun e W' => ∃ v, e = .returned v ∧ Rows.lexMarksSpec.post enc Tryd.prog Tryd.f13 false true false false W args v W' := by
  have hW' := hW
  obtain ⟨p, q, hA0, hV, rfl, hfz, hnd⟩ := hW
  have hA : DataW.TrodAll enc Tryd.prog W 0 (fun _ => true) true Tryd.f13.params.toList args.toList ds p := hA0
  rw [Tryd.params13] at hA hval
  obtain ⟨v0, vs0, d0, ds0, p0, q0, hargs, rfl, rfl, h0, r0⟩ := trodAll_cons hA
  obtain ⟨rfl, rfl, rfl⟩ := trodAll_nil r0
  obtain rfl : args = #[v0] := by cases args; simp_all
  obtain ⟨rfl, rfl⟩ := trodVars_none hV
  obtain ⟨r0, c0, fr0, fc0, rfl, rfl⟩ := open_mark (hval 0 59 v0 rfl rfl) h0
  have hp : PowTab W := pow_of_laid (laid := Rows.lexMarksRow.laid) hL (by simp [Rows.lexMarksRow])
  have ht : Tab W := tab_of_laid (laid := Rows.lexMarksRow.laid) hL (by first | exact List.mem_cons_self .. | (unfold faultName; simp [Rows.lexMarksRow, Rows.lexTextsRow]))
  clear hA0 hval
  have walk : Calls Tryd.prog 13 #[markV r0 c0 fr0 fc0] W fun e w' => e = .returned (.bool true) ∧ Below W.heap.size W w' := by
    exact lexMarks_any r0 c0 fr0 fc0 W ht hp
  refine walk.mono fun e W' ⟨he, bel⟩ => ?_
  subst he
  exact ⟨_, rfl, _, _, _, [], _, [], hW', trodAll_mk1 (shut_bool Tryd.underlying4 _), (trodAll_cons_mk (Below.trod laidOut (by kernel_rfl) (by decide +kernel) h0 bel (fun _ h => by cases h)) trodAll_mk0), rfl, bel.frame _, fun h => by cases h⟩
end Go.Proofs.YtcgdeoldgnjdeaaDoor.lexMarks
