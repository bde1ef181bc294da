/-
  The call of CsvRows, for every input.
-/
import Derived.Test.YteccjdclkcipbaaDoorCsvRowsW
import Derived.Test.YteccjdclkcipbaaDoorLaidH
import Derived.Test.YteccjdclkcipbaaDoorOpenV
namespace Go.Proofs.YteccjdclkcipbaaDoor.csvRows
open Go.ChangeShapes Go.WideShapes Go.ChangeAt Go.RowKit
open Go.ChangeMaps (open_string shut_string)

set_option maxRecDepth 100000 in
/-- WHAT THE WALKS GIVE. -/
theorem contract (H : Type) (enc : TypeId × Value → H) (W : World) (base : Nat) (args : Array Value) (ds gs : List (DataW H)) (before : List MemPlace)
    (hval : ∀ (j : Nat) t v, Tryd.f9.params[j]? = some t → args[j]? = some v → Value.okWide Tryd.prog W .any base t v)
    (hW : DataW.Whole enc Tryd.prog Tryd.f9.params.toList Rows.csvRowsSpec.vars false W args.toList ds gs before) (hL : laidMetH Tryd.prog Rows.csvRowsRow.laid W) (hSh : W.ShapedOpen Tryd.prog) :
    Calls Tryd.prog 9 args W fun e W' => ∃ v, e = .returned v ∧ Rows.csvRowsSpec.post enc Tryd.prog Tryd.f9 false true false false W args v W' := by
  have hW' := hW
  obtain ⟨p, q, hA0, hV, rfl, hfz, hnd⟩ := hW
  have hA : DataW.TrodAll enc Tryd.prog W 0 (fun _ => true) true Tryd.f9.params.toList args.toList ds p := hA0
  rw [Tryd.params9] at hA hval
  obtain ⟨v0, vs0, d0, ds0, p0, q0, hargs, rfl, rfl, h0, r0⟩ := trodAll_cons hA
  obtain ⟨v1, vs1, d1, ds1, p1, q1, rfl, rfl, rfl, h1, r1⟩ := trodAll_cons r0
  obtain ⟨rfl, rfl, rfl⟩ := trodAll_nil r1
  obtain rfl : args = #[v0, v1] := by cases args; simp_all
  obtain ⟨rfl, rfl⟩ := trodVars_none hV
  obtain ⟨b0, rfl, rfl, rfl, hs0⟩ := open_string Tryd.underlying9 (hval 0 9 v0 rfl rfl) h0
  obtain ⟨s0, rfl⟩ : ∃ s : Bs, b0 = ⟨s.toArray⟩ := ⟨b0.data.toList, by cases b0; simp⟩
  obtain ⟨z1, rfl, rfl, rfl, w1⟩ := open_int Tryd.underlying5 (hval 1 5 v1 rfl rfl) h1
  obtain ⟨z1a, z1b⟩ := bounds_u8 w1
  obtain ⟨u1, rfl⟩ : ∃ n : Nat, z1 = n := ⟨z1.toNat, by omega⟩
  have hmx : MaxVar W := max_of_shaped hSh
  have hp : PowTab W := pow_of_laid (laid := Rows.csvRowsRow.laid) hL (by simp [Rows.csvRowsRow])
  have ht : Tab W := tab_of_laid (laid := Rows.csvRowsRow.laid) hL (by first | exact List.mem_cons_self .. | (unfold faultName; simp [Rows.csvRowsRow, Rows.csvRowsRow]))
  clear hA0 hval
  have walk : Calls Tryd.prog 9 #[.string ⟨s0.toArray⟩, .int .u8 (u1 : Int)] W fun e w' => e = .returned (.bool true) ∧ Below W.heap.size W w' := by
    exact csvRows_all s0 u1 W (by omega) ht hp hmx
  refine walk.mono fun e W' ⟨he, bel⟩ => ?_
  subst he
  exact ⟨_, rfl, _, _, _, [], _, [], hW', trodAll_mk1 (shut_bool Tryd.underlying4 _), (trodAll_cons_mk (shut_string Tryd.underlying9 hs0) (trodAll_cons_mk (Below.trod laidOut (by kernel_rfl) (by decide +kernel) h1 bel (fun _ h => by cases h)) trodAll_mk0)), rfl, bel.frame _, fun h => by cases h⟩
end Go.Proofs.YteccjdclkcipbaaDoor.csvRows
