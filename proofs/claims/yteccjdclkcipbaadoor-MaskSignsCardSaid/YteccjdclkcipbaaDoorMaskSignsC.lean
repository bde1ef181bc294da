/-
  The call of MaskSigns, for every input.
-/
import Derived.Test.YteccjdclkcipbaaDoorMaskSignsW
import Derived.Test.YteccjdclkcipbaaDoorLaidH
import Derived.Test.YteccjdclkcipbaaDoorOpenV
namespace Go.Proofs.YteccjdclkcipbaaDoor.maskSigns
open Go.ChangeShapes Go.WideShapes Go.ChangeAt Go.RowKit
open Go.ChangeMaps (open_string shut_string)

set_option maxRecDepth 100000 in
/-- WHAT THE WALKS GIVE. -/
theorem contract (H : Type) (enc : TypeId × Value → H) (W : World) (base : Nat) (args : Array Value) (ds gs : List (DataW H)) (before : List MemPlace)
    (hval : ∀ (j : Nat) t v, Tryd.f5.params[j]? = some t → args[j]? = some v → Value.okWide Tryd.prog W .any base t v)
    (hW : DataW.Whole enc Tryd.prog Tryd.f5.params.toList Rows.maskSignsSpec.vars false W args.toList ds gs before) (hL : laidMetH Tryd.prog Rows.maskSignsRow.laid W) (hSh : W.ShapedOpen Tryd.prog) :
    Calls Tryd.prog 5 args W fun e W' => ∃ v, e = .returned v ∧ Rows.maskSignsSpec.post enc Tryd.prog Tryd.f5 false true false false W args v W' := by
  have hW' := hW
  obtain ⟨p, q, hA0, hV, rfl, hfz, hnd⟩ := hW
  have hA : DataW.TrodAll enc Tryd.prog W 0 (fun _ => true) true Tryd.f5.params.toList args.toList ds p := hA0
  rw [Tryd.params5] at hA hval
  obtain ⟨v0, vs0, d0, ds0, p0, q0, hargs, rfl, rfl, h0, r0⟩ := trodAll_cons hA
  obtain ⟨v1, vs1, d1, ds1, p1, q1, rfl, rfl, rfl, h1, r1⟩ := trodAll_cons r0
  obtain ⟨v2, vs2, d2, ds2, p2, q2, rfl, rfl, rfl, h2, r2⟩ := trodAll_cons r1
  obtain ⟨rfl, rfl, rfl⟩ := trodAll_nil r2
  obtain rfl : args = #[v0, v1, v2] := by cases args; simp_all
  obtain ⟨rfl, rfl⟩ := trodVars_none hV
  obtain ⟨b0, rfl, rfl, rfl, hs0⟩ := open_string Tryd.underlying9 (hval 0 9 v0 rfl rfl) h0
  obtain ⟨s0, rfl⟩ : ∃ s : Bs, b0 = ⟨s.toArray⟩ := ⟨b0.data.toList, by cases b0; simp⟩
  obtain ⟨m1, e1, rfl, rfl, n1a, n1b, n1c, n1d⟩ := open_num (hval 1 23 v1 rfl rfl) h1
  obtain ⟨x2, rfl, rfl, x2a, x2b, x2c, x2d, x2e, x2f, x2g, x2h, x2i⟩ := open_value (hval 2 27 v2 rfl rfl) h2
  have hmx : MaxVar W := max_of_shaped hSh
  have hp : PowTab W := pow_of_laid (laid := Rows.maskSignsRow.laid) hL (by simp [Rows.maskSignsRow])
  have ht : Tab W := tab_of_laid (laid := Rows.maskSignsRow.laid) hL (by first | exact List.mem_cons_self .. | (unfold faultName; simp [Rows.maskSignsRow, Rows.maskSignsRow]))
  clear hA0 hval
  have walk : Calls Tryd.prog 5 #[.string ⟨s0.toArray⟩, numV m1 e1, valV x2] W fun e w' => e = .returned (.bool true) ∧ Below W.heap.size W w' := by
    exact maskSigns_any s0 m1 e1 x2 W hs0 n1a n1b x2a x2b x2c ht hp hmx
  refine walk.mono fun e W' ⟨he, bel⟩ => ?_
  subst he
  exact ⟨_, rfl, _, _, _, [], _, [], hW', trodAll_mk1 (shut_bool Tryd.underlying4 _), (trodAll_cons_mk (shut_string Tryd.underlying9 hs0) (trodAll_cons_mk (Below.trod laidOut (by kernel_rfl) (by decide +kernel) h1 bel (fun _ h => by cases h)) (trodAll_cons_mk (Below.trod laidOut (by kernel_rfl) (by decide +kernel) h2 bel (fun _ h => by cases h)) trodAll_mk0))), rfl, bel.frame _, fun h => by cases h⟩
end Go.Proofs.YteccjdclkcipbaaDoor.maskSigns
