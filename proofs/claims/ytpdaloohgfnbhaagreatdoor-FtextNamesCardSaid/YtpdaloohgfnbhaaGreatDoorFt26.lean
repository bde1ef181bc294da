/-
  ftext.Call without arguments, of a name that there is and of one that there is not; counterpaneref12.Names.
-/
import Derived.Test.YtpdaloohgfnbhaaGreatDoorFt23
namespace Go.Proofs.YtpdaloohgfnbhaaGreatDoor
open Go.RowKit

/-- the fifteen names, rising -/
def names12 : List Bs := [[67, 79, 78, 67, 65, 84], [69, 88, 65, 67, 84], [70, 73, 78, 68], [76, 69, 70, 84], [76, 69, 78], [76, 79, 87, 69, 82], [77, 73, 68], [82, 69, 80, 84], [82, 73, 71, 72, 84], [83, 85, 66, 83, 84, 73, 84, 85, 84, 69], [84, 69, 88, 84, 74, 79, 73, 78], [84, 69, 88, 84, 83, 80, 76, 73, 84], [84, 82, 73, 77], [85, 80, 80, 69, 82], [86, 65, 76, 85, 69]]
theorem run_look_gone {P : Program} {w : World} (mty kt et : TypeId) (r clock : Nat) (es : Array MapEntry) (s : ByteArray) (z : Value) (hm : P.underlying mty = some (.map kt et)) (hk : P.underlying kt = some .string) (hb : w.heap[r]? = some (.map es clock)) (hz : (zeroValue et).run P w = .ok z w) (hf : Instr.findNow .string (.string s) es.toList 0 = some none) :
    (Instr.lookup mty (.map (some r)) (.string s) true).run P w = .ok (.tuple #[z, .bool false]) w := by
  have hc : (Instr.checkKey es.isEmpty 10000 kt (.string s)).run P w = .ok () w := MapKept.run_checkKey (k := .string s) hk (by simp [MapKept.IsKey]) _ 9999
  simp [Instr.lookup, run_underlying hm, MapKept.run_getObj_map hb, hc, MapKept.run_findKey hk hf, hz, Result.andThen]
theorem zero_fn (w : World) : (zeroValue 49).run Tryz.prog w = .ok (.agg #[.int .i64 0, .int .i64 0, .nilFunc]) w := by kernel_rfl
theorem tab_keys (q : Nat) : ∀ e ∈ (tabA q).toList, ∃ n ∈ names12, e.key = .string ⟨n.toArray⟩ := by
  intro e he
  simp only [tabA, List.mem_cons, List.not_mem_nil, or_false] at he
  rcases he with rfl | rfl | rfl | rfl | rfl | rfl | rfl | rfl | rfl | rfl | rfl | rfl | rfl | rfl | rfl
  · exact ⟨[76, 69, 78], by decide, rfl⟩
  · exact ⟨[76, 69, 70, 84], by decide, rfl⟩
  · exact ⟨[82, 73, 71, 72, 84], by decide, rfl⟩
  · exact ⟨[77, 73, 68], by decide, rfl⟩
  · exact ⟨[85, 80, 80, 69, 82], by decide, rfl⟩
  · exact ⟨[76, 79, 87, 69, 82], by decide, rfl⟩
  · exact ⟨[84, 82, 73, 77], by decide, rfl⟩
  · exact ⟨[70, 73, 78, 68], by decide, rfl⟩
  · exact ⟨[83, 85, 66, 83, 84, 73, 84, 85, 84, 69], by decide, rfl⟩
  · exact ⟨[82, 69, 80, 84], by decide, rfl⟩
  · exact ⟨[69, 88, 65, 67, 84], by decide, rfl⟩
  · exact ⟨[86, 65, 76, 85, 69], by decide, rfl⟩
  · exact ⟨[67, 79, 78, 67, 65, 84], by decide, rfl⟩
  · exact ⟨[84, 69, 88, 84, 74, 79, 73, 78], by decide, rfl⟩
  · exact ⟨[84, 69, 88, 84, 83, 80, 76, 73, 84], by decide, rfl⟩
theorem find_gone (name : Bs) (h : name ∉ names12) (q : Nat) : Instr.findNow .string (.string ⟨name.toArray⟩) (tabA q).toList 0 = some none := by
  rcases MapKept.findNow_spec (d := .string) (k := .string ⟨name.toArray⟩) (by simp [MapKept.IsKey]) (tabA q).toList 0 (fun x hx => by obtain ⟨n, _, e⟩ := tab_keys q x hx; rw [e]; simp [MapKept.IsKey]) with ⟨h1, _⟩ | ⟨j, e, _, h2, h3⟩
  · exact h1
  · exfalso
    obtain ⟨n, h4, h5⟩ := tab_keys q e (List.mem_of_getElem? h2)
    rw [h5] at h3
    injection h3 with h6
    injection h6 with h7
    have h8 : n = name := by simpa using h7
    exact h (h8 ▸ h4)
theorem find_known : ∀ name ∈ names12, ∃ (i least most k : Nat) (lb : Nat → Array Value), 1 ≤ least ∧ ∀ q, Instr.findNow .string (.string ⟨name.toArray⟩) (tabA q).toList 0 = some (some (i, entV least most (.func (.func k) #[] (lb q)))) := by
  intro name hn
  simp only [names12, List.mem_cons, List.not_mem_nil, or_false] at hn
  rcases hn with rfl | rfl | rfl | rfl | rfl | rfl | rfl | rfl | rfl | rfl | rfl | rfl | rfl | rfl | rfl
  · exact ⟨12, 1, 32, 45, fun _ => #[], by decide, fun q => by rfl⟩
  · exact ⟨10, 2, 2, 60, fun q => #[.pointer (some ⟨q + 31 + 1, 0, none⟩), .pointer (some ⟨q + 31 + 1 + 1, 0, none⟩)], by decide, fun q => by rfl⟩
  · exact ⟨7, 2, 3, 60, fun q => #[.pointer (some ⟨q + 22 + 1, 0, none⟩), .pointer (some ⟨q + 22 + 1 + 1, 0, none⟩)], by decide, fun q => by rfl⟩
  · exact ⟨1, 1, 2, 60, fun q => #[.pointer (some ⟨q + 4 + 1, 0, none⟩), .pointer (some ⟨q + 4 + 1 + 1, 0, none⟩)], by decide, fun q => by rfl⟩
  · exact ⟨0, 1, 1, 60, fun q => #[.pointer (some ⟨q + 1 + 1, 0, none⟩), .pointer (some ⟨q + 1 + 1 + 1, 0, none⟩)], by decide, fun q => by rfl⟩
  · exact ⟨5, 1, 1, 60, fun q => #[.pointer (some ⟨q + 16 + 1, 0, none⟩), .pointer (some ⟨q + 16 + 1 + 1, 0, none⟩)], by decide, fun q => by rfl⟩
  · exact ⟨3, 3, 3, 60, fun q => #[.pointer (some ⟨q + 10 + 1, 0, none⟩), .pointer (some ⟨q + 10 + 1 + 1, 0, none⟩)], by decide, fun q => by rfl⟩
  · exact ⟨9, 2, 2, 60, fun q => #[.pointer (some ⟨q + 28 + 1, 0, none⟩), .pointer (some ⟨q + 28 + 1 + 1, 0, none⟩)], by decide, fun q => by rfl⟩
  · exact ⟨2, 1, 2, 60, fun q => #[.pointer (some ⟨q + 7 + 1, 0, none⟩), .pointer (some ⟨q + 7 + 1 + 1, 0, none⟩)], by decide, fun q => by rfl⟩
  · exact ⟨8, 3, 4, 60, fun q => #[.pointer (some ⟨q + 25 + 1, 0, none⟩), .pointer (some ⟨q + 25 + 1 + 1, 0, none⟩)], by decide, fun q => by rfl⟩
  · exact ⟨13, 3, 32, 46, fun _ => #[], by decide, fun q => by rfl⟩
  · exact ⟨14, 2, 2, 47, fun _ => #[], by decide, fun q => by rfl⟩
  · exact ⟨6, 1, 1, 60, fun q => #[.pointer (some ⟨q + 19 + 1, 0, none⟩), .pointer (some ⟨q + 19 + 1 + 1, 0, none⟩)], by decide, fun q => by rfl⟩
  · exact ⟨4, 1, 1, 60, fun q => #[.pointer (some ⟨q + 13 + 1, 0, none⟩), .pointer (some ⟨q + 13 + 1 + 1, 0, none⟩)], by decide, fun q => by rfl⟩
  · exact ⟨11, 1, 1, 60, fun q => #[.pointer (some ⟨q + 34 + 1, 0, none⟩), .pointer (some ⟨q + 34 + 1 + 1, 0, none⟩)], by decide, fun q => by rfl⟩
set_option maxRecDepth 100000 in
set_option maxHeartbeats 6400000 in
theorem call_nil (name : Bs) (least most : Nat) (k : Nat) (lb : Nat → Array Value) (i : Nat) (w : World)
    (hfind : ∀ q, Instr.findNow .string (.string ⟨name.toArray⟩) (tabA q).toList 0 = some (some (i, entV least most (.func (.func k) #[] (lb q))))) (hl : 1 ≤ least) :
    Calls Tryz.prog 9 #[.string ⟨name.toArray⟩, .slice none 0 0] w (CallPost (arr1 (vBad 2)) w) := by
  have CT := Lib.hid (table_any (w.alloc (.cells #[.int .i64 0, .int .i64 0, .slice none 0 0] 25)))
  have CA := Lib.hid (fun W => alone_any 2 (by decide) (by decide) W)
  have HD := Lib.hid hfind
  have HB1 : Hid (Below w.heap.size w (w.alloc (.cells #[.int .i64 0, .int .i64 0, .slice none 0 0] 25))) := Lib.hid ((Below.refl _ w).alloc (Nat.le_refl _) _)
  have HR1 : Hid (Lies (w.alloc (.cells #[.int .i64 0, .int .i64 0, .slice none 0 0] 25)) w.heap.size 25 #[.int .i64 0, .int .i64 0, .slice none 0 0]) := Lib.hid (Lies.new w _ _)
  rw [World.size_alloc] at CT
  clear hfind
  go_enter Tryz.func9, Tryz.ntmps9
  go_wp2_with fail
  refine CT.out.mono ?_
  rintro e w2 ⟨rfl, hT⟩
  obtain ⟨t1, t2, t3, t4⟩ := hT
  rw [World.size_alloc] at t1 t2 t3 t4
  have HB2 := Lib.hid (HB1.out.trans (t3.mono (Nat.le_succ _)))
  have HR2 : Hid (Lies w2 w.heap.size 25 #[.int .i64 0, .int .i64 0, .slice none 0 0]) := Lib.hid ((t3.block w.heap.size (Nat.lt_succ_self _)).trans HR1.out)
  have hlk := run_look_known (P := Tryz.prog) 51 9 49 (w.heap.size + 1) 15 (tabA (w.heap.size + 1)) ⟨name.toArray⟩ i _ uTab Tryz.underlying9 t2 (HD.out _)
  unfold entV at hlk
  clear t1 t2 t3 t4 CT HB1 HR1
  generalize hqe : w.heap.size = q at *
  have HQ := Lib.hid hqe
  clear hqe
  go_upto_region 2 with fail
  have hqs2 : q < w2.heap.size := HR2.out.lt
  have HB3 := Lib.hid (HB2.out.alloc (Nat.le_of_lt hqs2) (.cells #[.int .i64 (least : Int), .int .i64 (most : Int), .func (.func k) #[] (lb (q + 1))] 49))
  have HR3 := Lib.hid (HR2.out.alloc (.cells #[.int .i64 (least : Int), .int .i64 (most : Int), .func (.func k) #[] (lb (q + 1))] 49))
  have HE3 := Lib.hid (Lies.new w2 49 #[.int .i64 (least : Int), .int .i64 (most : Int), .func (.func k) #[] (lb (q + 1))])
  generalize w2.alloc (.cells #[.int .i64 (least : Int), .int .i64 (most : Int), .func (.func k) #[] (lb (q + 1))] 49) = W3 at *
  generalize w2.heap.size = ge at *
  have e0 := HE3.out.cell 0
  have e1 := HE3.out.cell 1
  simp only [List.getElem?_toArray, List.getElem?_cons_zero, List.getElem?_cons_succ] at e0 e1
  have hl' : (0 : Int) < (least : Int) := by omega
  clear HB2 HR2 hlk hl
  go_wp2_with fail
  refine (CA.out _).mono ?_
  rintro e w6 ⟨v, rfl, ⟨g, cA, rfl, hvp⟩, hb6⟩
  have hqs : q < W3.heap.size := HR3.out.lt
  have HB6 := Lib.hid (HB3.out.trans (hb6.mono (Nat.le_of_lt hqs)))
  have HR6 := Lib.hid (HR3.out.next hb6)
  have HVP := Lib.hid hvp
  have x0 := HR6.out.cell 0
  have x1 := HR6.out.cell 1
  have x2 := HR6.out.cell 2
  have f0 := HR6.out.frozen 0
  have f1 := HR6.out.frozen 1
  have f2 := HR6.out.frozen 2
  simp only [List.getElem?_toArray, List.getElem?_cons_zero, List.getElem?_cons_succ] at x0 x1 x2
  clear hb6 hvp HR3 e0 e1
  dsimp only [arr1, List.length_cons, List.length_nil]
  go_wp2_with fail
  refine bodyPost_ret (v := .tuple #[.agg #[.int .i64 1, .int .i64 1, .slice (some ⟨g, 0, none⟩) 1 cA], .bool true]) (by simp [results, Tryz.results9, go_sem, x0, x1, x2]) rfl ?_
  refine ⟨_, rfl, ⟨g, cA, rfl, ?_⟩, ?_⟩
  · exact ((HVP.out.put (by decide) HR6.out 0 _).put (by decide) (HR6.out.put 0 _) 1 _).put (by decide) ((HR6.out.put 0 _).put 1 _) 2 _
  · rw [HQ.out]
    exact below_set (below_set (below_set HB6.out (Nat.le_refl _) 0 _) (Nat.le_refl _) 1 _) (Nat.le_refl _) 2 _
theorem call_nil_known (name : Bs) (h : name ∈ names12) (w : World) : Calls Tryz.prog 9 #[.string ⟨name.toArray⟩, .slice none 0 0] w (CallPost (arr1 (vBad 2)) w) := by
  obtain ⟨i, least, most, k, lb, hl, hf⟩ := find_known name h
  exact call_nil name least most k lb i w hf hl
set_option maxRecDepth 100000 in
set_option maxHeartbeats 6400000 in
theorem call_nil_gone (name : Bs) (h : name ∉ names12) (w : World) :
    Calls Tryz.prog 9 #[.string ⟨name.toArray⟩, .slice none 0 0] w fun e w' => e = .returned (.tuple #[.agg #[.int .i64 0, .int .i64 0, .slice none 0 0], .bool false]) ∧ Below w.heap.size w w' := by
  have CT := Lib.hid (table_any (w.alloc (.cells #[.int .i64 0, .int .i64 0, .slice none 0 0] 25)))
  have HD := Lib.hid (find_gone name h)
  have HB1 : Hid (Below w.heap.size w (w.alloc (.cells #[.int .i64 0, .int .i64 0, .slice none 0 0] 25))) := Lib.hid ((Below.refl _ w).alloc (Nat.le_refl _) _)
  have HR1 : Hid (Lies (w.alloc (.cells #[.int .i64 0, .int .i64 0, .slice none 0 0] 25)) w.heap.size 25 #[.int .i64 0, .int .i64 0, .slice none 0 0]) := Lib.hid (Lies.new w _ _)
  rw [World.size_alloc] at CT
  clear h
  go_enter Tryz.func9, Tryz.ntmps9
  go_wp2_with fail
  refine CT.out.mono ?_
  rintro e w2 ⟨rfl, hT⟩
  obtain ⟨t1, t2, t3, t4⟩ := hT
  rw [World.size_alloc] at t1 t2 t3 t4
  have HB2 := Lib.hid (HB1.out.trans (t3.mono (Nat.le_succ _)))
  have HR2 : Hid (Lies w2 w.heap.size 25 #[.int .i64 0, .int .i64 0, .slice none 0 0]) := Lib.hid ((t3.block w.heap.size (Nat.lt_succ_self _)).trans HR1.out)
  have hlk := run_look_gone (P := Tryz.prog) 51 9 49 (w.heap.size + 1) 15 (tabA (w.heap.size + 1)) ⟨name.toArray⟩ _ uTab Tryz.underlying9 t2 (zero_fn _) (HD.out _)
  clear t1 t2 t3 t4 CT HB1 HR1
  generalize hqe : w.heap.size = q at *
  have HQ := Lib.hid hqe
  clear hqe
  have hqs2 : q < w2.heap.size := HR2.out.lt
  have x0 := HR2.out.cell 0
  have x1 := HR2.out.cell 1
  have x2 := HR2.out.cell 2
  have f0 := HR2.out.frozen 0
  have f1 := HR2.out.frozen 1
  have f2 := HR2.out.frozen 2
  simp only [List.getElem?_toArray, List.getElem?_cons_zero, List.getElem?_cons_succ] at x0 x1 x2
  go_upto_region 2 with fail
  have HB3 := Lib.hid (HB2.out.alloc (Nat.le_of_lt hqs2) (.cells #[.int .i64 0, .int .i64 0, .nilFunc] 49))
  have HR3 := Lib.hid (HR2.out.alloc (.cells #[.int .i64 0, .int .i64 0, .nilFunc] 49))
  generalize w2.alloc (.cells #[.int .i64 0, .int .i64 0, .nilFunc] 49) = W3 at *
  generalize w2.heap.size = ge at *
  clear x0 x1 x2 f0 f1 f2 hlk HB2 HR2
  have x0 := HR3.out.cell 0
  have x1 := HR3.out.cell 1
  have x2 := HR3.out.cell 2
  have f0 := HR3.out.frozen 0
  have f1 := HR3.out.frozen 1
  have f2 := HR3.out.frozen 2
  simp only [List.getElem?_toArray, List.getElem?_cons_zero, List.getElem?_cons_succ] at x0 x1 x2
  go_wp2_with fail
  refine bodyPost_ret (v := .tuple #[.agg #[.int .i64 0, .int .i64 0, .slice none 0 0], .bool false]) (by simp [results, Tryz.results9, go_sem, x0, x1, x2]) rfl ?_
  refine ⟨rfl, ?_⟩
  rw [HQ.out]
  exact below_set (below_set (below_set HB3.out (Nat.le_refl _) 0 _) (Nat.le_refl _) 1 _) (Nat.le_refl _) 2 _
set_option maxRecDepth 100000 in
theorem rnames_any (w : World) : Calls Tryz.prog 19 #[] w fun e w' => ∃ g cap, e = .returned (.slice (some ⟨g, 0, none⟩) 15 cap) ∧ SBk w' g names12 ∧ Below w.heap.size w w' := by
  go_enter Tryz.func19, Tryz.ntmps19
  go_wp2_with fail
  go_ret
  exact ⟨w.heap.size, 15, rfl, Lies.new w _ _, (Below.refl _ w).alloc (Nat.le_refl _) _⟩
end Go.Proofs.YtpdaloohgfnbhaaGreatDoor
