/-
  The call of FtextParts, for every input.
-/
import Derived.Test.YtpdaloohgfnbhaaGreatDoorFtextPartsW
import Derived.Test.YtpdaloohgfnbhaaGreatDoorLaidH
import Derived.Test.YtpdaloohgfnbhaaGreatDoorOpenV
import Derived.Test.YtpdaloohgfnbhaaGreatDoorLaidE
namespace Go.Proofs.YtpdaloohgfnbhaaGreatDoor.ftextParts
open Go.ChangeShapes Go.WideShapes Go.ChangeAt Go.RowKit
open Go.ChangeMaps (open_string shut_string)

set_option maxRecDepth 100000 in
/-- WHAT THE WALKS GIVE. -/
theorem contract (H : Type) (enc : TypeId × Value → H) (W : World) (base : Nat) (args : Array Value) (ds gs : List (DataW H)) (before : List MemPlace)
    (hval : ∀ (j : Nat) t v, Tryz.f3.params[j]? = some t → args[j]? = some v → Value.okWide Tryz.prog W .any base t v)
    (hW : DataW.Whole enc Tryz.prog Tryz.f3.params.toList Rows.ftextPartsSpec.vars false W args.toList ds gs before) (hL : laidMetH Tryz.prog Rows.ftextPartsRow.laid W) (hSh : W.ShapedOpen Tryz.prog) :
    Calls Tryz.prog 3 args W fun e W' => ∃ v, e = .returned v ∧ Rows.ftextPartsSpec.post enc Tryz.prog Tryz.f3 false true false false W args v W' := by
  have hW' := hW
  obtain ⟨p, q, hA0, hV, rfl, hfz, hnd⟩ := hW
  have hA : DataW.TrodAll enc Tryz.prog W 0 (fun _ => true) true Tryz.f3.params.toList args.toList ds p := hA0
  rw [Tryz.params3] at hA hval
  obtain ⟨v0, vs0, d0, ds0, p0, q0, hargs, rfl, rfl, h0, r0⟩ := trodAll_cons hA
  obtain ⟨v1, vs1, d1, ds1, p1, q1, rfl, rfl, rfl, h1, r1⟩ := trodAll_cons r0
  obtain ⟨v2, vs2, d2, ds2, p2, q2, rfl, rfl, rfl, h2, r2⟩ := trodAll_cons r1
  obtain ⟨rfl, rfl, rfl⟩ := trodAll_nil r2
  obtain rfl : args = #[v0, v1, v2] := by cases args; simp_all
  obtain ⟨rfl, rfl⟩ := trodVars_none hV
  obtain ⟨b0, rfl, rfl, rfl, hs0⟩ := open_string Tryz.underlying9 (hval 0 9 v0 rfl rfl) h0
  obtain ⟨s0, rfl⟩ : ∃ s : Bs, b0 = ⟨s.toArray⟩ := ⟨b0.data.toList, by cases b0; simp⟩
  obtain ⟨z1, rfl, rfl, rfl, w1⟩ := open_int Tryz.underlying5 (hval 1 5 v1 rfl rfl) h1
  obtain ⟨z1a, z1b⟩ := bounds_u8 w1
  obtain ⟨u1, rfl⟩ : ∃ n : Nat, z1 = n := ⟨z1.toNat, by omega⟩
  obtain ⟨z2, rfl, rfl, rfl, w2⟩ := open_int Tryz.underlying5 (hval 2 5 v2 rfl rfl) h2
  obtain ⟨z2a, z2b⟩ := bounds_u8 w2
  obtain ⟨u2, rfl⟩ : ∃ n : Nat, z2 = n := ⟨z2.toNat, by omega⟩
  have hmx : MaxVar W := max_of_shaped hSh
  have hp : PowTab W := pow_of_laid (laid := Rows.ftextPartsRow.laid) hL (by simp [Rows.ftextPartsRow])
  clear hA0 hval
  have walk : Calls Tryz.prog 3 #[.string ⟨s0.toArray⟩, .int .u8 (u1 : Int), .int .u8 (u2 : Int)] W fun e w' => e = .returned (.bool true) ∧ Below W.heap.size W w' := by
    exact parts_any s0 u1 u2 W hp hmx (by omega) (by omega)
  refine walk.mono fun e W' ⟨he, bel⟩ => ?_
  subst he
  exact ⟨_, rfl, _, _, _, [], _, [], hW', trodAll_mk1 (shut_bool Tryz.underlying4 _), (trodAll_cons_mk (shut_string Tryz.underlying9 hs0) (trodAll_cons_mk (Below.trod laidOut (by kernel_rfl) (by decide +kernel) h1 bel (fun _ h => by cases h)) (trodAll_cons_mk (Below.trod laidOut (by kernel_rfl) (by decide +kernel) h2 bel (fun _ h => by cases h)) trodAll_mk0))), rfl, bel.frame _, fun h => by cases h⟩
end Go.Proofs.YtpdaloohgfnbhaaGreatDoor.ftextParts
