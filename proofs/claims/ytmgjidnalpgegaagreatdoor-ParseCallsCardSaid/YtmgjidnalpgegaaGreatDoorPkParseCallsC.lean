/-
  The call of ParseCalls, for every input.
-/
import Derived.Test.YtmgjidnalpgegaaGreatDoorPkParseCallsX

namespace Go.Proofs.YtmgjidnalpgegaaGreatDoor.parseCalls
open Go.ChangeShapes Go.WideShapes Go.ChangeAt Go.RowKit
open Go.ChangeMaps (open_string shut_string)

set_option maxRecDepth 100000 in
/-- WHAT THE WALKS GIVE. -/
theorem contract (H : Type) (enc : TypeId × Value → H) (W : World) (base : Nat) (args : Array Value) (ds gs : List (DataW H)) (before : List MemPlace)
    (hval : ∀ (j : Nat) t v, Tryz.f7.params[j]? = some t → args[j]? = some v → Value.okWide Tryz.prog W .any base t v)
    (hW : DataW.Whole enc Tryz.prog Tryz.f7.params.toList Rows.parseCallsSpec.vars false W args.toList ds gs before) (hL : laidMetH Tryz.prog Rows.parseCallsRow.laid W)
    (vt : List TypeId) (hwt : (DataW.weightsEach Tryz.prog (Tryz.f7.params.toList ++ vt) (ds ++ gs)).all (· ≤ reachBytes) = true) :
    Calls Tryz.prog 7 args W fun e W' => ∃ v, e = .returned v ∧ Rows.parseCallsSpec.post enc Tryz.prog Tryz.f7 false true false false W args v W' := by
  have hW' := hW
  obtain ⟨p, q, hA0, hV, rfl, hfz, hnd⟩ := hW
  have hA : DataW.TrodAll enc Tryz.prog W 0 (fun _ => true) true Tryz.f7.params.toList args.toList ds p := hA0
  rw [Tryz.params7] at hA hval hwt
  obtain ⟨v0, vs0, d0, ds0, p0, q0, hargs, rfl, rfl, h0, r0⟩ := trodAll_cons hA
  obtain ⟨v1, vs1, d1, ds1, p1, q1, rfl, rfl, rfl, h1, r1⟩ := trodAll_cons r0
  obtain ⟨v2, vs2, d2, ds2, p2, q2, rfl, rfl, rfl, h2, r2⟩ := trodAll_cons r1
  obtain ⟨v3, vs3, d3, ds3, p3, q3, rfl, rfl, rfl, h3, r3⟩ := trodAll_cons r2
  obtain ⟨v4, vs4, d4, ds4, p4, q4, rfl, rfl, rfl, h4, r4⟩ := trodAll_cons r3
  obtain ⟨rfl, rfl, rfl⟩ := trodAll_nil r4
  obtain rfl : args = #[v0, v1, v2, v3, v4] := by cases args; simp_all
  obtain ⟨rfl, rfl⟩ := trodVars_none hV
  obtain ⟨b0, rfl, rfl, rfl, hs0⟩ := open_string Tryz.underlying9 (hval 0 9 v0 rfl rfl) h0
  obtain ⟨s0, rfl⟩ : ∃ s : Bs, b0 = ⟨s.toArray⟩ := ⟨b0.data.toList, by cases b0; simp⟩
  obtain ⟨b1, rfl, rfl, rfl, hs1⟩ := open_string Tryz.underlying9 (hval 1 9 v1 rfl rfl) h1
  obtain ⟨s1, rfl⟩ : ∃ s : Bs, b1 = ⟨s.toArray⟩ := ⟨b1.data.toList, by cases b1; simp⟩
  obtain ⟨A2, len2, cap2, rfl⟩ := okWide_slice Tryz.underlying22 (hval 2 22 v2 rfl rfl)
  have k2 := h2
  have lt2 : ∀ x ∈ p2, x.block < W.heap.size := by obtain ⟨m, hm⟩ := k2; exact DataW.trod_lt m _ _ _ hm
  obtain ⟨l2, hl2, ha2, hf2⟩ := in_ids h2
  subst hl2
  obtain ⟨A3, len3, cap3, rfl⟩ := okWide_slice Tryz.underlying22 (hval 3 22 v3 rfl rfl)
  have k3 := h3
  have lt3 : ∀ x ∈ p3, x.block < W.heap.size := by obtain ⟨m, hm⟩ := k3; exact DataW.trod_lt m _ _ _ hm
  obtain ⟨l3, hl3, ha3, hf3⟩ := in_ids h3
  subst hl3
  obtain ⟨z4, rfl, rfl, rfl, w4⟩ := open_int Tryz.underlying5 (hval 4 5 v4 rfl rfl) h4
  obtain ⟨z4a, z4b⟩ := bounds_u8 w4
  obtain ⟨u4, rfl⟩ : ∃ n : Nat, z4 = n := ⟨z4.toNat, by omega⟩
  have ht : Tab W := tab_of_laid (laid := Rows.parseCallsRow.laid) hL (by first | exact List.mem_cons_self .. | (unfold faultName; simp [Rows.parseCallsRow, Rows.parseCallsRow]))
  clear hA0 hval
  have hw0 : s0.length ≤ 140737488351232 := of_decide_eq_true (List.all_eq_true.1 hwt s0.length (DataW.weights_mem_each (j := 0) rfl rfl _ (by simp [DataW.weights])))
  have hw1 : s1.length ≤ 140737488351232 := of_decide_eq_true (List.all_eq_true.1 hwt s1.length (DataW.weights_mem_each (j := 1) rfl rfl _ (by simp [DataW.weights])))
  have walk : Calls Tryz.prog 7 #[.string ⟨s0.toArray⟩, .string ⟨s1.toArray⟩, .slice A2 l2.length cap2, .slice A3 l3.length cap3, .int .u8 (u4 : Int)] W fun e w' => e = .returned (.bool true) ∧ Below W.heap.size W w' := by
    exact calls_any s0 s1 A2 A3 cap2 cap3 l2 l3 u4 W ht ha2 ha3 (ids_len k2) (ids_len k3) hf2 hf3 (by omega) (by omega)
  refine walk.mono fun e W' ⟨he, bel⟩ => ?_
  subst he
  exact ⟨_, rfl, _, _, _, [], _, [], hW', trodAll_mk1 (shut_bool Tryz.underlying4 _), (trodAll_cons_mk (shut_string Tryz.underlying9 hs0) (trodAll_cons_mk (shut_string Tryz.underlying9 hs1) (trodAll_cons_mk (Below.trod laidOut (by kernel_rfl) (of_decide_eq_true (by kernel_rfl)) k2 bel lt2) (trodAll_cons_mk (Below.trod laidOut (by kernel_rfl) (of_decide_eq_true (by kernel_rfl)) k3 bel lt3) (trodAll_cons_mk (Below.trod laidOut (by kernel_rfl) (by decide +kernel) h4 bel (fun _ h => by cases h)) trodAll_mk0))))), rfl, bel.frame _, fun h => by cases h⟩
end Go.Proofs.YtmgjidnalpgegaaGreatDoor.parseCalls
