/-
  The call of FtextLens, for every input.
-/
import Derived.Test.YtpdaloohgfnbhaaGreatDoorFtextLensW
import Derived.Test.YtpdaloohgfnbhaaGreatDoorLaidH
import Derived.Test.YtpdaloohgfnbhaaGreatDoorOpenV
import Derived.Test.YtpdaloohgfnbhaaGreatDoorLaidE
namespace Go.Proofs.YtpdaloohgfnbhaaGreatDoor.ftextLens
open Go.ChangeShapes Go.WideShapes Go.ChangeAt Go.RowKit
open Go.ChangeMaps (open_string shut_string)

set_option maxRecDepth 100000 in
/-- WHAT THE WALKS GIVE. -/
theorem contract (H : Type) (enc : TypeId × Value → H) (W : World) (base : Nat) (args : Array Value) (ds gs : List (DataW H)) (before : List MemPlace)
    (hval : ∀ (j : Nat) t v, Tryz.f6.params[j]? = some t → args[j]? = some v → Value.okWide Tryz.prog W .any base t v)
    (hW : DataW.Whole enc Tryz.prog Tryz.f6.params.toList Rows.ftextLensSpec.vars false W args.toList ds gs before) (hL : laidMetH Tryz.prog Rows.ftextLensRow.laid W) (hSh : W.ShapedOpen Tryz.prog) :
    Calls Tryz.prog 6 args W fun e W' => ∃ v, e = .returned v ∧ Rows.ftextLensSpec.post enc Tryz.prog Tryz.f6 false true false false W args v W' := by
  have hW' := hW
  obtain ⟨p, q, hA0, hV, rfl, hfz, hnd⟩ := hW
  have hA : DataW.TrodAll enc Tryz.prog W 0 (fun _ => true) true Tryz.f6.params.toList args.toList ds p := hA0
  rw [Tryz.params6] at hA hval
  obtain ⟨v0, vs0, d0, ds0, p0, q0, hargs, rfl, rfl, h0, r0⟩ := trodAll_cons hA
  obtain ⟨v1, vs1, d1, ds1, p1, q1, rfl, rfl, rfl, h1, r1⟩ := trodAll_cons r0
  obtain ⟨rfl, rfl, rfl⟩ := trodAll_nil r1
  obtain rfl : args = #[v0, v1] := by cases args; simp_all
  obtain ⟨rfl, rfl⟩ := trodVars_none hV
  obtain ⟨b0, rfl, rfl, rfl, hs0⟩ := open_string Tryz.underlying9 (hval 0 9 v0 rfl rfl) h0
  obtain ⟨s0, rfl⟩ : ∃ s : Bs, b0 = ⟨s.toArray⟩ := ⟨b0.data.toList, by cases b0; simp⟩
  obtain ⟨b1, rfl, rfl, rfl, hs1⟩ := open_string Tryz.underlying9 (hval 1 9 v1 rfl rfl) h1
  obtain ⟨s1, rfl⟩ : ∃ s : Bs, b1 = ⟨s.toArray⟩ := ⟨b1.data.toList, by cases b1; simp⟩
  have hmx : MaxVar W := max_of_shaped hSh
  have hp : PowTab W := pow_of_laid (laid := Rows.ftextLensRow.laid) hL (by simp [Rows.ftextLensRow])
  clear hA0 hval
  have walk : Calls Tryz.prog 6 #[.string ⟨s0.toArray⟩, .string ⟨s1.toArray⟩] W fun e w' => e = .returned (.bool true) ∧ Below W.heap.size W w' := by
    exact lens_any s0 s1 W hp hmx
  refine walk.mono fun e W' ⟨he, bel⟩ => ?_
  subst he
  exact ⟨_, rfl, _, _, _, [], _, [], hW', trodAll_mk1 (shut_bool Tryz.underlying4 _), (trodAll_cons_mk (shut_string Tryz.underlying9 hs0) (trodAll_cons_mk (shut_string Tryz.underlying9 hs1) trodAll_mk0)), rfl, bel.frame _, fun h => by cases h⟩
end Go.Proofs.YtpdaloohgfnbhaaGreatDoor.ftextLens
