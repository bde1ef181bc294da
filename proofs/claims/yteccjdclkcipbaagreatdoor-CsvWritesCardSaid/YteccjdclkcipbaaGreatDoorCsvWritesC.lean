/-
  The call of CsvWrites, for every input.
-/
import Derived.Test.YteccjdclkcipbaaGreatDoorCsvWritesW
import Derived.Test.YteccjdclkcipbaaGreatDoorLaidH
import Derived.Test.YteccjdclkcipbaaGreatDoorOpenA
namespace Go.Proofs.YteccjdclkcipbaaGreatDoor.csvWrites
open Go.ChangeShapes Go.WideShapes Go.ChangeAt Go.RowKit
open Go.ChangeMaps (open_string shut_string)

set_option maxRecDepth 100000 in
/-- WHAT THE WALKS GIVE. -/
theorem contract (H : Type) (enc : TypeId × Value → H) (W : World) (base : Nat) (args : Array Value) (ds gs : List (DataW H)) (before : List MemPlace)
    (hval : ∀ (j : Nat) t v, Tryz.f3.params[j]? = some t → args[j]? = some v → Value.okWide Tryz.prog W .any base t v)
    (hW : DataW.Whole enc Tryz.prog Tryz.f3.params.toList Rows.csvWritesSpec.vars false W args.toList ds gs before) (hL : laidMetH Tryz.prog Rows.csvWritesRow.laid W) (hSh : W.ShapedOpen Tryz.prog) :
    Calls Tryz.prog 3 args W fun e W' => ∃ v, e = .returned v ∧ Rows.csvWritesSpec.post enc Tryz.prog Tryz.f3 false true false false W args v W' := by
  have hW' := hW
  obtain ⟨p, q, hA0, hV, rfl, hfz, hnd⟩ := hW
  have hA : DataW.TrodAll enc Tryz.prog W 0 (fun _ => true) true Tryz.f3.params.toList args.toList ds p := hA0
  rw [Tryz.params3] at hA hval
  obtain ⟨v0, vs0, d0, ds0, p0, q0, hargs, rfl, rfl, h0, r0⟩ := trodAll_cons hA
  obtain ⟨rfl, rfl, rfl⟩ := trodAll_nil r0
  obtain rfl : args = #[v0] := by cases args; simp_all
  obtain ⟨rfl, rfl⟩ := trodVars_none hV
  have k0 := h0
  have lt0 : ∀ x ∈ p0, x.block < W.heap.size := by obtain ⟨m, hm⟩ := k0; exact DataW.trod_lt m _ _ _ hm
  obtain ⟨r0', c0', A0, cap0, l0, rfl, r0a, r0b, c0a, c0b, hv0, hm0⟩ := open_array (hval 0 24 v0 rfl rfl) h0
  have hmx : MaxVar W := max_of_shaped hSh
  have hp : PowTab W := pow_of_laid (laid := Rows.csvWritesRow.laid) hL (by simp [Rows.csvWritesRow])
  have ht : Tab W := tab_of_laid (laid := Rows.csvWritesRow.laid) hL (by first | exact List.mem_cons_self .. | (unfold faultName; simp [Rows.csvWritesRow, Rows.csvWritesRow]))
  clear hA0 hval
  have walk : Calls Tryz.prog 3 #[.agg #[.int .i64 r0', .int .i64 c0', .slice A0 l0.length cap0]] W fun e w' => e = .returned (.bool true) ∧ Below W.heap.size W w' := by
    exact csvWrites_any r0' c0' A0 cap0 l0 W r0a r0b hv0 hm0 ht hp hmx
  refine walk.mono fun e W' ⟨he, bel⟩ => ?_
  subst he
  exact ⟨_, rfl, _, _, _, [], _, [], hW', trodAll_mk1 (shut_bool Tryz.underlying4 _), (trodAll_cons_mk (Below.trod laidOut (by kernel_rfl) (of_decide_eq_true (by kernel_rfl)) k0 bel lt0) trodAll_mk0), rfl, bel.frame _, fun h => by cases h⟩
end Go.Proofs.YteccjdclkcipbaaGreatDoor.csvWrites
