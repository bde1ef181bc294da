/-
  The call of LexJoins, for every input.
-/
import Derived.Test.YtcgdeoldgnjdeaaDoorLexJoinsW
import Derived.Test.YtcgdeoldgnjdeaaDoorLaidH
import Derived.Test.YtcgdeoldgnjdeaaDoorOpenT
namespace Go.Proofs.YtcgdeoldgnjdeaaDoor.lexJoins
open Go.ChangeShapes Go.WideShapes Go.ChangeAt Go.RowKit

set_option maxRecDepth 100000 in
/-- WHAT THE WALKS GIVE. -/
theorem contract (H : Type) (enc : TypeId × Value → H) (W : World) (base : Nat) (args : Array Value) (ds gs : List (DataW H)) (before : List MemPlace)
    (hval : ∀ (j : Nat) t v, Tryd.f11.params[j]? = some t → args[j]? = some v → Value.okWide Tryd.prog W .any base t v)
    (hW : DataW.Whole enc Tryd.prog Tryd.f11.params.toList Rows.lexJoinsSpec.vars false W args.toList ds gs before) (hL : laidMetH Tryd.prog Rows.lexJoinsRow.laid W) (hSh : W.ShapedOpen Tryd.prog)
    (vt : List TypeId) (hwt : (DataW.weightsEach Tryd.prog (Tryd.f11.params.toList ++ vt) (ds ++ gs)).all (· ≤ reachBytes) = true) :
    Calls Tryd.prog 11 args W fun e W' => ∃ v, e = .returned v ∧ Rows.lexJoinsSpec.post enc Tryd.prog Tryd.f11 false true false false W args v W' := by
  have hW' := hW
  obtain ⟨p, q, hA0, hV, rfl, hfz, hnd⟩ := hW
  have hA : DataW.TrodAll enc Tryd.prog W 0 (fun _ => true) true Tryd.f11.params.toList args.toList ds p := hA0
  rw [Tryd.params11] at hA hval hwt
  obtain ⟨v0, vs0, d0, ds0, p0, q0, hargs, rfl, rfl, h0, r0⟩ := trodAll_cons hA
  obtain ⟨rfl, rfl, rfl⟩ := trodAll_nil r0
  obtain rfl : args = #[v0] := by cases args; simp_all
  obtain ⟨rfl, rfl⟩ := trodVars_none hV
  have hmx : MaxVar W := max_of_shaped hSh
  have ht : Tab W := tab_of_laid (laid := Rows.lexJoinsRow.laid) hL (by first | exact List.mem_cons_self .. | (unfold faultName; simp [Rows.lexJoinsRow, Rows.lexTextsRow]))
  obtain ⟨a0, len0, cap0, rfl⟩ := okWide_slice Tryd.underlying27 (hval 0 27 v0 rfl rfl)
  have k0 := h0
  have lt0 : ∀ x ∈ p0, x.block < W.heap.size := by obtain ⟨m, hm⟩ := k0; exact DataW.trod_lt m _ _ _ hm
  obtain ⟨ts, hb1, hb2, hb3⟩ := in_toks h0 (fun n hn => of_decide_eq_true (List.all_eq_true.1 hwt n (DataW.weights_mem_each (j := 0) rfl rfl n hn)))
  subst hb1
  clear hA0 hval
  have walk : Calls Tryd.prog 11 #[.slice a0 ts.length cap0] W fun e w' => e = .returned (.bool true) ∧ Below W.heap.size W w' := lexJoins_any a0 cap0 ts W hb3 hb2 ht hmx
  refine walk.mono fun e W' ⟨he, bel⟩ => ?_
  subst he
  exact ⟨_, rfl, _, _, _, [], _, [], hW', trodAll_mk1 (shut_bool Tryd.underlying4 _), (trodAll_cons_mk (Below.trod laidOut (by kernel_rfl) (of_decide_eq_true (by kernel_rfl)) k0 bel lt0) trodAll_mk0), rfl, bel.frame _, fun h => by cases h⟩
end Go.Proofs.YtcgdeoldgnjdeaaDoor.lexJoins
