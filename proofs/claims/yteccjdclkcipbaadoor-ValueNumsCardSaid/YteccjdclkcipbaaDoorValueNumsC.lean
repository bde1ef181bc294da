/-
  The call of ValueNums, for every input.
-/
import Derived.Test.YteccjdclkcipbaaDoorValueNumsW
import Derived.Test.YteccjdclkcipbaaDoorLaidG
import Derived.Test.YteccjdclkcipbaaDoorOpenV
namespace Go.Proofs.YteccjdclkcipbaaDoor.valueNums
open Go.ChangeShapes Go.WideShapes Go.ChangeAt Go.RowKit
open Go.ChangeMaps (open_string shut_string)

set_option maxRecDepth 100000 in
/-- WHAT THE WALKS GIVE. -/
theorem contract (H : Type) (enc : TypeId × Value → H) (W : World) (base : Nat) (args : Array Value) (ds gs : List (DataW H)) (before : List MemPlace)
    (hval : ∀ (j : Nat) t v, Tryd.f3.params[j]? = some t → args[j]? = some v → Value.okWide Tryd.prog W .any base t v)
    (hW : DataW.Whole enc Tryd.prog Tryd.f3.params.toList Rows.valueNumsSpec.vars false W args.toList ds gs before) (hL : laidMetH Tryd.prog Rows.valueNumsRow.laid W) :
    Calls Tryd.prog 3 args W fun e W' => ∃ v, e = .returned v ∧ Rows.valueNumsSpec.post enc Tryd.prog Tryd.f3 false true false false W args v W' := by
  have hW' := hW
  obtain ⟨p, q, hA0, hV, rfl, hfz, hnd⟩ := hW
  have hA : DataW.TrodAll enc Tryd.prog W 0 (fun _ => true) true Tryd.f3.params.toList args.toList ds p := hA0
  rw [Tryd.params3] at hA hval
  obtain ⟨v0, vs0, d0, ds0, p0, q0, hargs, rfl, rfl, h0, r0⟩ := trodAll_cons hA
  obtain ⟨v1, vs1, d1, ds1, p1, q1, rfl, rfl, rfl, h1, r1⟩ := trodAll_cons r0
  obtain ⟨rfl, rfl, rfl⟩ := trodAll_nil r1
  obtain rfl : args = #[v0, v1] := by cases args; simp_all
  obtain ⟨rfl, rfl⟩ := trodVars_none hV
  obtain ⟨m0, e0, rfl, rfl, n0a, n0b, n0c, n0d⟩ := open_num (hval 0 23 v0 rfl rfl) h0
  obtain ⟨m1, e1, rfl, rfl, n1a, n1b, n1c, n1d⟩ := open_num (hval 1 23 v1 rfl rfl) h1
  have hp : PowTab W := pow_of_laid (laid := Rows.valueNumsRow.laid) hL (by simp [Rows.valueNumsRow])
  have ht : Tab W := tab_of_laid (laid := Rows.valueNumsRow.laid) hL (by first | exact List.mem_cons_self .. | (unfold faultName; simp [Rows.valueNumsRow, Rows.valueNumsRow]))
  clear hA0 hval
  have walk : Calls Tryd.prog 3 #[numV m0 e0, numV m1 e1] W fun e w' => e = .returned (.bool true) ∧ Below W.heap.size W w' := by
    exact valueNums_any m0 e0 m1 e1 W ht hp n0a n0b n1a n1b
  refine walk.mono fun e W' ⟨he, bel⟩ => ?_
  subst he
  exact ⟨_, rfl, _, _, _, [], _, [], hW', trodAll_mk1 (shut_bool Tryd.underlying4 _), (trodAll_cons_mk (Below.trod laidOut (by kernel_rfl) (by decide +kernel) h0 bel (fun _ h => by cases h)) (trodAll_cons_mk (Below.trod laidOut (by kernel_rfl) (by decide +kernel) h1 bel (fun _ h => by cases h)) trodAll_mk0)), rfl, bel.frame _, fun h => by cases h⟩
end Go.Proofs.YteccjdclkcipbaaDoor.valueNums
