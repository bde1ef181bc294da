/-
  ftext.Names: the names of the table, sorted.
-/
import Derived.Test.YtpdaloohgfnbhaaGreatDoorFt26
import Derived.Test.YtpdaloohgfnbhaaGreatDoorShelfK
namespace Go.Proofs.YtpdaloohgfnbhaaGreatDoor
open Go.RowKit Go.Maps Go.Sort Go.Shelf

theorem sortsN (m : Nat) : AnyZ.SortsIn Tryz.prog Tryz.sorted27_ren Fence.wide m :=
  ⟨fun blk off cap ss W hH hblk hsz => callsIn_wide.2 (AnyM.slices_Sort_string Tryz.sort58 blk off cap ss W hH hblk hsz),
   fun p cap W => callsIn_wide.2 (AnyM.slices_Sort_string_none Tryz.sort58 p cap W)⟩
theorem keysN (mb : Option Nat) (W : World) : CallsIn Fence.wide 5 Tryz.prog 28 #[.map mb] W fun e w' => e = .returned (.func (.func 59) #[] #[.pointer (some ⟨W.heap.size, 0, none⟩)]) ∧ w' = W.alloc (.cells #[.map mb] 51) :=
  AnyZ.keys_in Tryz.keys28 Fence.wide 5 trivial rfl mb W
set_option maxHeartbeats 1000000 in
theorem sortedN {H : Type} (b nn : Nat) (D0 : DataW H) (R : Value → Option (DataW H × List MemPlace)) (w : World) (hown : w.ownsMap Tryz.prog 9 R b nn D0) (hmax : Maps.size D0 ≤ maxLen) (hbytes : Maps.size D0 * 16 ≤ 140737488355328) :
    CallsIn Fence.wide 5 Tryz.prog 27 #[.func (.func 59) #[] #[.pointer (some ⟨w.heap.size, 0, none⟩)]] (w.alloc (.cells #[.map (some b)] 51)) fun e w' => ∃ (v : Value) (ss : List (List UInt8)), e = .returned v ∧ ss.Perm (strKeys D0) ∧
      w'.ownsRow (w.alloc (.cells #[.map (some b)] 51)).heap.size 9 1 v ss.length ((ss.mergeSort (fun x y => decide (x ≤ y))).map encStr) ∧ (v = .slice none 0 0 ↔ ss = []) ∧ Below (w.alloc (.cells #[.map (some b)] 51)).heap.size (w.alloc (.cells #[.map (some b)] 51)) w' := by
  have hbl := hown.lt
  have hseq : SeqGives Fence.wide 2 Tryz.prog 59 #[.pointer (some ⟨w.heap.size, 0, none⟩)] encStr (fun ss => ss.Perm (strKeys D0)) (Maps.size D0) (w.alloc (.cells #[.map (some b)] 51)) :=
    AnyZ.keys_gives (ρ := Tryz.keys28_ren) { Tryz.keys28 with } Fence.wide _ trivial rfl (by omega) w.heap.size b nn D0 _ (by simp) (by simp) (by
      obtain ⟨es, clock, hb, Ft, hs, hD⟩ := hown
      exact ⟨es, clock, (Below.heap_alloc _ _ b hbl).trans hb, Ft, hs, hD⟩)
  exact AnyZ.sorted_in Tryz.sorted27 Fence.wide 5 trivial trivial trivial trivial rfl (by omega) (sortsN _) (enters_of Tryz.func58 (by kernel_rfl) rfl) 59 #[.pointer (some ⟨w.heap.size, 0, none⟩)] trivial (enters_of Tryz.func59 (by kernel_rfl) rfl) _ _ hmax hbytes _ hseq
/-- the names, as they were put into the table -/
def tabN : List Bs := [[76, 69, 78], [76, 69, 70, 84], [82, 73, 71, 72, 84], [77, 73, 68], [85, 80, 80, 69, 82], [76, 79, 87, 69, 82], [84, 82, 73, 77], [70, 73, 78, 68], [83, 85, 66, 83, 84, 73, 84, 85, 84, 69], [82, 69, 80, 84], [69, 88, 65, 67, 84], [86, 65, 76, 85, 69], [67, 79, 78, 67, 65, 84], [84, 69, 88, 84, 74, 79, 73, 78], [84, 69, 88, 84, 83, 80, 76, 73, 84]]
theorem tab_keyN (q : Nat) : (tabA q).toList.map (·.key) = tabN.map (fun n => Value.string ⟨n.toArray⟩) := rfl
theorem strV_inj {a b : Bs} (h : Value.string ⟨a.toArray⟩ = Value.string ⟨b.toArray⟩) : a = b := by
  injection h with h1
  injection h1 with h2
  simpa using h2
def RN : Value → Option (DataW Unit × List MemPlace) := fun _ => some (.lit (.bool true), [])
def tabD : DataW Unit := .map ((tabN.map (fun n => (Lit.string n, (DataW.lit (.bool true) : DataW Unit)))).foldr DataW.insert [])
theorem rdN (n : Bs) (v : Value) (k : Nat) (h : n.length ≤ maxLen) : WideElems.rd Tryz.prog 9 RN (mapEnt n v k) = some (.string n, .lit (.bool true)) :=
  have hk : keyOf Tryz.prog 9 (.string ⟨n.toArray⟩) = some (.string n) := by
    simp [keyOf, Tryz.underlying9, mapKey]
    simpa [ByteArray.size] using h
  WideElems.rd_mk (yv := (.lit (.bool true), [])) hk rfl
def fN (x : MapEntry) : Lit × DataW Unit := match x.key with
  | .string s => (Lit.string s.data.toList, .lit (.bool true))
  | _ => (.bool false, .nil)
theorem tab_fN (q : Nat) : (tabA q).toList.map fN = tabN.map (fun n => (Lit.string n, (DataW.lit (.bool true) : DataW Unit))) := rfl
theorem tab_rd (q : Nat) : ∀ x ∈ (tabA q).toList, WideElems.rd Tryz.prog 9 RN x = some (fN x) ∧ x.born < 15 := by
  intro x hx
  simp only [tabA, List.mem_cons, List.not_mem_nil, or_false] at hx
  rcases hx with rfl | rfl | rfl | rfl | rfl | rfl | rfl | rfl | rfl | rfl | rfl | rfl | rfl | rfl | rfl <;> exact ⟨rdN _ _ _ (by decide), by simp [mapEnt]⟩
theorem tab_owns (w : World) (q : Nat) (h : w.heap[q]? = some (.map (tabA q) 15)) : w.ownsMap Tryz.prog 9 RN q 15 tabD := by
  refine ⟨tabA q, 15, h, ⟨by show (15 : Nat) ≤ maxLen; decide, ⟨fun x hx => (tab_rd q x hx).2, ?_, ?_⟩, fun x hx => ⟨_, (tab_rd q x hx).1⟩⟩, Nat.le_refl 15, ?_⟩
  · show [0, 1, 2, 3, 4, 5, 6, 7, 8, 9, 10, 11, 12, 13, 14].Nodup
    decide
  · rw [tab_keyN, List.Nodup, List.pairwise_map]
    exact List.Pairwise.imp (fun hne he => hne (strV_inj he)) (show tabN.Nodup by decide)
  · rw [List.map_congr_left (fun x hx => WideElems.rg_of (tab_rd q x hx).1), tab_fN]
    rfl
theorem tabD_keys : strKeys tabD = names12 := by decide +kernel
theorem tabD_size : Maps.size tabD = 15 := by decide +kernel
theorem names_sorted : names12.mergeSort leB = names12 := List.mergeSort_of_pairwise (by decide +kernel)
/-- texts in memory, from a block's start, one of them being there at least -/
def TRowN (W : World) (g : Nat) (L : List Bs) : Prop := g < W.heap.size ∧ ∀ j (h : j < L.length), W.cell? ⟨g, j, none⟩ = some (.string ⟨L[j].toArray⟩)
theorem TRowN.next {W W' : World} {g : Nat} {L : List Bs} (h : TRowN W g L) (hb : Below W.heap.size W W') : TRowN W' g L := ⟨Nat.lt_of_lt_of_le h.1 hb.size, fun j hj => (hb.cell (p := ⟨g, j, none⟩) h.1).trans (h.2 j hj)⟩
theorem trowN_own {W : World} {base n : Nat} {v : Value} {L : List Bs} (h : W.ownsRow base 9 1 v n (L.map (fun p => Value.string ⟨p.toArray⟩))) (hn : n = L.length) (h0 : 0 < n) : ∃ g cap, v = .slice (some ⟨g, 0, none⟩) n cap ∧ TRowN W g L := by
  obtain ⟨hl, ⟨e, hz⟩ | ⟨g, cap, cur, e1, e2, e3, e4, e5, e6, e7⟩⟩ := h
  · omega
  · refine ⟨g, cap, e1, ?_, fun j hj => ?_⟩
    · rcases Nat.lt_or_ge g W.heap.size with h | h
      · exact h
      · rw [Array.getElem?_eq_none h] at e3
        cases e3
    · rw [Lib.cell_of_heap e3]
      have h2 : (cur.toList.take (n * 1))[j]? = cur.toList[j]? := List.getElem?_take_of_lt (by omega)
      rw [e7] at h2
      show cur[j]? = _
      rw [← Array.getElem?_toList, ← h2]
      simp [hj]
set_option maxRecDepth 100000 in
set_option maxHeartbeats 1600000 in
theorem names_any (w : World) : Calls Tryz.prog 18 #[] w fun e w' => ∃ g cap, e = .returned (.slice (some ⟨g, 0, none⟩) 15 cap) ∧ TRowN w' g names12 ∧ Below w.heap.size w w' := by
  have CT := Lib.hid (table_any w)
  refine (callsIn_wide (n := 6)).1 ?_
  have hfK : Fence.wide.fn 28 := trivial
  have hfS : Fence.wide.fn 27 := trivial
  have hfT : Fence.wide.fn 20 := trivial
  refine callsIn_of_wp Tryz.func18 rfl trivial ?_ rfl
  simp only [Tryz.ntmps18, List.size_toArray, List.length_nil, Nat.reduceSub, Array.replicate_succ, Array.replicate_zero, List.push_toArray, List.append_toArray, List.nil_append, List.cons_append]
  gi_wp2_with (gi_at_call 20; refine (callsIn_wide.2 CT.out).mono ?_; rintro e w' ⟨rfl, hT⟩)
  have hown := tab_owns w' w.heap.size hT.2.1
  have HB := Lib.hid hT.2.2.1
  clear hT
  gi_wp2_with (first
    | (gi_at_call 28; refine (keysN _ _).mono ?_; rintro e wk ⟨rfl, rfl⟩)
    | (gi_at_call 27; refine (sortedN _ _ _ _ _ hown (by rw [tabD_size]; decide) (by rw [tabD_size]; decide)).mono ?_; rintro e ws ⟨v, ss, rfl, hS, hrow, hnil, hb⟩))
  go_ret
  rw [tabD_keys] at hS
  have hlen : ss.length = 15 := hS.length_eq
  have hms : ss.mergeSort (fun x y => decide (x ≤ y)) = names12 := (mergeSort_of_perm hS).trans names_sorted
  rw [hms, hlen] at hrow
  obtain ⟨g, cap, rfl, hT⟩ := trowN_own hrow rfl (by decide)
  exact ⟨g, cap, rfl, hT, HB.out.trans ((((Below.refl _ _).alloc (Nat.le_refl _) _).trans (hb.mono (by simp))).mono HB.out.size)⟩
end Go.Proofs.YtpdaloohgfnbhaaGreatDoor
