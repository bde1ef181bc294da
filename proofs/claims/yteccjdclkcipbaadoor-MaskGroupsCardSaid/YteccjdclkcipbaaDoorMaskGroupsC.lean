/-
  The call of MaskGroups, for every input.
-/
import Derived.Test.YteccjdclkcipbaaDoorMaskGroupsW
import Derived.Test.YteccjdclkcipbaaDoorLaidH
import Derived.Test.YteccjdclkcipbaaDoorLaidG
import Derived.Test.YteccjdclkcipbaaDoorOpenV
namespace Go.Proofs.YteccjdclkcipbaaDoor.maskGroups
open Go.ChangeShapes Go.WideShapes Go.ChangeAt Go.RowKit
open Go.ChangeMaps (open_string shut_string)

set_option maxRecDepth 100000 in
/-- WHAT THE WALKS GIVE. -/
theorem contract (H : Type) (enc : TypeId × Value → H) (W : World) (base : Nat) (args : Array Value) (ds gs : List (DataW H)) (before : List MemPlace)
    (hval : ∀ (j : Nat) t v, Tryd.f6.params[j]? = some t → args[j]? = some v → Value.okWide Tryd.prog W .any base t v)
    (hW : DataW.Whole enc Tryd.prog Tryd.f6.params.toList Rows.maskGroupsSpec.vars false W args.toList ds gs before) (hL : laidMetH Tryd.prog Rows.maskGroupsRow.laid W) (hSh : W.ShapedOpen Tryd.prog) :
    Calls Tryd.prog 6 args W fun e W' => ∃ v, e = .returned v ∧ Rows.maskGroupsSpec.post enc Tryd.prog Tryd.f6 false true false false W args v W' := by
  have hW' := hW
  obtain ⟨p, q, hA0, hV, rfl, hfz, hnd⟩ := hW
  have hA : DataW.TrodAll enc Tryd.prog W 0 (fun _ => true) true Tryd.f6.params.toList args.toList ds p := hA0
  rw [Tryd.params6] at hA hval
  obtain ⟨v0, vs0, d0, ds0, p0, q0, hargs, rfl, rfl, h0, r0⟩ := trodAll_cons hA
  obtain ⟨rfl, rfl, rfl⟩ := trodAll_nil r0
  obtain rfl : args = #[v0] := by cases args; simp_all
  obtain ⟨rfl, rfl⟩ := trodVars_none hV
  obtain ⟨m0, e0, rfl, rfl, n0a, n0b, n0c, n0d⟩ := open_num (hval 0 23 v0 rfl rfl) h0
  have hmx : MaxVar W := max_of_shaped hSh
  have hp : PowTab W := pow_of_laid (laid := Rows.maskGroupsRow.laid) hL (by simp [Rows.maskGroupsRow])
  have ht : Tab W := tab_of_laid (laid := Rows.maskGroupsRow.laid) hL (by first | exact List.mem_cons_self .. | (unfold faultName; simp [Rows.maskGroupsRow, Rows.maskGroupsRow]))
  clear hA0 hval
  have walk : Calls Tryd.prog 6 #[numV m0 e0] W fun e w' => e = .returned (.bool true) ∧ Below W.heap.size W w' := by
    exact maskGroups_any m0 e0 W n0a n0b ht hp hmx
  refine walk.mono fun e W' ⟨he, bel⟩ => ?_
  subst he
  exact ⟨_, rfl, _, _, _, [], _, [], hW', trodAll_mk1 (shut_bool Tryd.underlying4 _), (trodAll_cons_mk (Below.trod laidOut (by kernel_rfl) (by decide +kernel) h0 bel (fun _ h => by cases h)) trodAll_mk0), rfl, bel.frame _, fun h => by cases h⟩
end Go.Proofs.YteccjdclkcipbaaDoor.maskGroups
