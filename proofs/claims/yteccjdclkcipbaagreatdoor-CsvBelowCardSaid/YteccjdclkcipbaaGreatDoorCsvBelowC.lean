/-
  The call of CsvBelow, for every input.
-/
import Derived.Test.YteccjdclkcipbaaGreatDoorCsvBelowW
import Derived.Test.YteccjdclkcipbaaGreatDoorLaidH
import Derived.Test.YteccjdclkcipbaaGreatDoorOpenA
namespace Go.Proofs.YteccjdclkcipbaaGreatDoor.csvBelow
open Go.ChangeShapes Go.WideShapes Go.ChangeAt Go.RowKit
open Go.ChangeMaps (open_string shut_string)

set_option maxRecDepth 100000 in
/-- WHAT THE WALKS GIVE. -/
theorem contract (H : Type) (enc : TypeId × Value → H) (W : World) (base : Nat) (args : Array Value) (ds gs : List (DataW H)) (before : List MemPlace)
    (hval : ∀ (j : Nat) t v, Tryz.f5.params[j]? = some t → args[j]? = some v → Value.okWide Tryz.prog W .any base t v)
    (hW : DataW.Whole enc Tryz.prog Tryz.f5.params.toList Rows.csvBelowSpec.vars false W args.toList ds gs before) (hL : laidMetH Tryz.prog Rows.csvBelowRow.laid W) (hSh : W.ShapedOpen Tryz.prog) :
    Calls Tryz.prog 5 args W fun e W' => ∃ v, e = .returned v ∧ Rows.csvBelowSpec.post enc Tryz.prog Tryz.f5 false true false false W args v W' := by
  have hW' := hW
  obtain ⟨p, q, hA0, hV, rfl, hfz, hnd⟩ := hW
  have hA : DataW.TrodAll enc Tryz.prog W 0 (fun _ => true) true Tryz.f5.params.toList args.toList ds p := hA0
  rw [Tryz.params5] at hA hval
  obtain ⟨v0, vs0, d0, ds0, p0, q0, hargs, rfl, rfl, h0, r0⟩ := trodAll_cons hA
  obtain ⟨v1, vs1, d1, ds1, p1, q1, rfl, rfl, rfl, h1, r1⟩ := trodAll_cons r0
  obtain ⟨rfl, rfl, rfl⟩ := trodAll_nil r1
  obtain rfl : args = #[v0, v1] := by cases args; simp_all
  obtain ⟨rfl, rfl⟩ := trodVars_none hV
  have k0 := h0
  have lt0 : ∀ x ∈ p0, x.block < W.heap.size := by obtain ⟨m, hm⟩ := k0; exact DataW.trod_lt m _ _ _ hm
  obtain ⟨r0', c0', A0, cap0, l0, rfl, r0a, r0b, c0a, c0b, hc0, hv0, hm0⟩ := open_array (hval 0 24 v0 rfl rfl) h0
  have k1 := h1
  have lt1 : ∀ x ∈ p1, x.block < W.heap.size := by obtain ⟨m, hm⟩ := k1; exact DataW.trod_lt m _ _ _ hm
  obtain ⟨r1', c1', A1, cap1, l1, rfl, r1a, r1b, c1a, c1b, hc1, hv1, hm1⟩ := open_array (hval 1 24 v1 rfl rfl) h1
  have hmx : MaxVar W := max_of_shaped hSh
  have hp : PowTab W := pow_of_laid (laid := Rows.csvBelowRow.laid) hL (by simp [Rows.csvBelowRow])
  have ht : Tab W := tab_of_laid (laid := Rows.csvBelowRow.laid) hL (by first | exact List.mem_cons_self .. | (unfold faultName; simp [Rows.csvBelowRow, Rows.csvBelowRow]))
  clear hA0 hval
  have walk : Calls Tryz.prog 5 #[.agg #[.int .i64 r0', .int .i64 c0', .slice A0 l0.length cap0], .agg #[.int .i64 r1', .int .i64 c1', .slice A1 l1.length cap1]] W fun e w' => e = .returned (.bool true) ∧ Below W.heap.size W w' := by
    exact csvBelow_any r0' c0' A0 cap0 l0 r1' c1' A1 cap1 l1 W ⟨r0a, r0b⟩ ⟨r1a, r1b⟩ hc0 hv0 hv1 hm0 hm1 ht hp hmx
  refine walk.mono fun e W' ⟨he, bel⟩ => ?_
  subst he
  exact ⟨_, rfl, _, _, _, [], _, [], hW', trodAll_mk1 (shut_bool Tryz.underlying4 _), (trodAll_cons_mk (Below.trod laidOut (by kernel_rfl) (of_decide_eq_true (by kernel_rfl)) k0 bel lt0) (trodAll_cons_mk (Below.trod laidOut (by kernel_rfl) (of_decide_eq_true (by kernel_rfl)) k1 bel lt1) trodAll_mk0)), rfl, bel.frame _, fun h => by cases h⟩
end Go.Proofs.YteccjdclkcipbaaGreatDoor.csvBelow
