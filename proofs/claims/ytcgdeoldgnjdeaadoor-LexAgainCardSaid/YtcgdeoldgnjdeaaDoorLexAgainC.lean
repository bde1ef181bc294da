/-
  The call of LexAgain, for every input.
-/
import Derived.Test.YtcgdeoldgnjdeaaDoorLexAgainW
import Derived.Test.YtcgdeoldgnjdeaaDoorLaidH
import Derived.Test.YtcgdeoldgnjdeaaDoorCards
import Derived.ProofKit
import Derived.OpenShut
import Derived.ShutString
import Derived.Deep.DeepHandedRow
namespace Go.Proofs.YtcgdeoldgnjdeaaDoor.lexAgain
open Go.ChangeShapes Go.WideShapes Go.ChangeAt Go.RowKit
open Go.ChangeMaps (open_string shut_string)

set_option maxRecDepth 100000 in
/-- WHAT THE WALKS GIVE. -/
theorem contract (H : Type) (enc : TypeId × Value → H) (W : World) (base : Nat) (args : Array Value) (ds gs : List (DataW H)) (before : List MemPlace)
    (hval : ∀ (j : Nat) t v, Tryd.f12.params[j]? = some t → args[j]? = some v → Value.okWide Tryd.prog W .any base t v)
    (hW : DataW.Whole enc Tryd.prog Tryd.f12.params.toList Rows.lexAgainSpec.vars false W args.toList ds gs before) (hL : laidMetH Tryd.prog Rows.lexAgainRow.laid W) (hSh : W.ShapedOpen Tryd.prog) :
    Calls Tryd.prog 12 args W fun e W' => ∃ v, e = .returned v ∧ Rows.lexAgainSpec.post enc Tryd.prog Tryd.f12 false true false false W args v W' := by
  have hW' := hW
  obtain ⟨p, q, hA0, hV, rfl, hfz, hnd⟩ := hW
  have hA : DataW.TrodAll enc Tryd.prog W 0 (fun _ => true) true Tryd.f12.params.toList args.toList ds p := hA0
  rw [Tryd.params12] at hA hval
  obtain ⟨v0, vs0, d0, ds0, p0, q0, hargs, rfl, rfl, h0, r0⟩ := trodAll_cons hA
  obtain ⟨rfl, rfl, rfl⟩ := trodAll_nil r0
  obtain rfl : args = #[v0] := by cases args; simp_all
  obtain ⟨rfl, rfl⟩ := trodVars_none hV
  obtain ⟨b0, rfl, rfl, rfl, hs0⟩ := open_string Tryd.underlying9 (hval 0 9 v0 rfl rfl) h0
  obtain ⟨s0, rfl⟩ : ∃ s : Bs, b0 = ⟨s.toArray⟩ := ⟨b0.data.toList, by cases b0; simp⟩
  have hmx : MaxVar W := max_of_shaped hSh
  have ht : Tab W := tab_of_laid (laid := Rows.lexAgainRow.laid) hL (by first | exact List.mem_cons_self .. | (unfold faultName; simp [Rows.lexAgainRow, Rows.lexTextsRow]))
  clear hA0 hval
  have walk : Calls Tryd.prog 12 #[.string ⟨s0.toArray⟩] W fun e w' => e = .returned (.bool true) ∧ Below W.heap.size W w' := by
    exact lexAgain_any s0 W ht hmx
  refine walk.mono fun e W' ⟨he, bel⟩ => ?_
  subst he
  exact ⟨_, rfl, _, _, _, [], _, [], hW', trodAll_mk1 (shut_bool Tryd.underlying4 _), (trodAll_cons_mk (shut_string Tryd.underlying9 hs0) trodAll_mk0), rfl, bel.frame _, fun h => by cases h⟩
end Go.Proofs.YtcgdeoldgnjdeaaDoor.lexAgain
