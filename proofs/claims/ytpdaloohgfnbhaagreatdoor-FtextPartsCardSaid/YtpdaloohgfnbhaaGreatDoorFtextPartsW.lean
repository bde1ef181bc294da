/-
  The walk of law12.FtextParts.
-/
import Derived.Test.YtpdaloohgfnbhaaGreatDoorFt22
namespace Go.Proofs.YtpdaloohgfnbhaaGreatDoor
open Go.RowKit

theorem mid_all (t : Bs) (ht : t.length ≤ 9) : pMid t 1 9 = tV t := by
  unfold pMid
  rw [if_neg (by decide)]
  by_cases h : t.length < 1
  · have e : t = [] := List.eq_nil_of_length_eq_zero (by omega)
    rw [if_pos h, e]
    rfl
  · rw [if_neg h]
    simp only [Nat.sub_self, List.drop_zero, Nat.sub_zero]
    rw [Nat.min_eq_right ht, List.take_length, vText_tV (by omega)]
set_option maxRecDepth 100000 in
set_option maxHeartbeats 6400000 in
theorem parts_walk (t : Bs) (fr n k a : Nat) (ve vf : Val) (w : World) (hP : PowTab w) (hM : MaxVar w) (ht : t.length ≤ 9) (hk : n % (t.length + 1) = k) (ha : 1 + fr % (t.length + 1) = a) (hfr : fr ≤ 255) (hn : n ≤ 255) (hve : ve = pMid t (a % 10) k)
    (hCF : ∀ W b, PowTab W → MaxVar W → Args W b [arr1 ve, arr1 (tV t)] → Calls Tryz.prog 9 #[.string ⟨#[70, 73, 78, 68]⟩, .slice (some ⟨b, 0, none⟩) 2 2] W (CallPost (arr1 vf) W))
    (hfin : a ≤ 9 → ∃ i : Nat, vf = dV i ∧ 1 ≤ i ∧ i ≤ a) :
    Calls Tryz.prog 3 #[.string ⟨t.toArray⟩, .int .u8 (fr : Int), .int .u8 (n : Int)] w fun e w' => e = .returned (.bool true) ∧ Below w.heap.size w w' := by
  have hkl : k ≤ t.length := by have := Nat.mod_lt n (Nat.succ_pos t.length); rw [Nat.succ_eq_add_one] at this; omega
  have hal : 1 ≤ a ∧ a ≤ t.length + 1 := by have := Nat.mod_lt fr (Nat.succ_pos t.length); rw [Nat.succ_eq_add_one] at this; omega
  have hki : (n : Int).tmod ((t.length : Int) + 1) = (k : Int) := by rw [← hk]; simp [Int.tmod_eq_emod_of_nonneg]
  obtain ⟨m, hm⟩ : ∃ m, fr % (t.length + 1) = m := ⟨_, rfl⟩
  have hmi : (fr : Int).tmod ((t.length : Int) + 1) = (m : Int) := by rw [← hm]; simp [Int.tmod_eq_emod_of_nonneg]
  have hm9 : (m : Int) ≤ 9 := by omega
  have hai : (1 : Int) + (m : Int) = (a : Int) := by omega
  obtain ⟨a10, ha10⟩ : ∃ a10, a % 10 = a10 := ⟨_, rfl⟩
  have ha10i : (a : Int).tmod 10 = (a10 : Int) := by rw [← ha10]; simp [Int.tmod_eq_emod_of_nonneg]
  have ha109 : a10 ≤ 9 := by omega
  rw [ha10] at hve
  have hsub : (t.length : Int) - (k : Int) = ((t.length - k : Nat) : Int) := by omega
  replace hCF := Lib.hid hCF
  replace hfin := Lib.hid hfin
  replace hve := Lib.hid hve
  have hz : ¬ (t.length : Int) + 1 = 0 := by omega
  clear hk ha hm
  have HP := Lib.hid (fun W (h : Below w.heap.size w W) => hP.next h)
  have HM := Lib.hid (fun W (h : Below w.heap.size w W) => hM.next h)
  have HB := Lib.hid (Below.refl w.heap.size w)
  clear hP hM
  go_enter Tryz.func3, Tryz.ntmps3
  go_wp2_with fail
  refine (awake12_any _ (HP.out _ (Below.refl _ _)) (HM.out _ (Below.refl _ _))).mono ?_
  rintro x w0 ⟨rfl, hb⟩
  replace HB := Lib.hid (HB.out.trans (hb.mono HB.out.size))
  clear hb
  go_upto_region 7 with fail
  go_wp2_with fail
  refine (one12_any t _).mono ?_
  rintro x w1 ⟨v, rfl, ⟨g1, c1, rfl, hv⟩, hb⟩
  replace HB := Lib.hid (HB.out.trans (hb.mono HB.out.size))
  have HV1 := Lib.hid hv
  clear hb hv
  dsimp only [arr1, List.length_cons, List.length_nil, Nat.zero_add, List.map_cons, List.map_nil]
  go_wp2_with fail
  refine (digit12_any k _).mono ?_
  rintro x w2 ⟨v, rfl, ⟨g2, c2, rfl, hv⟩, hb⟩
  replace HB := Lib.hid (HB.out.trans (hb.mono HB.out.size))
  replace HV1 := Lib.hid (HV1.out.next hb)
  have HV2 := Lib.hid hv
  clear hb hv
  dsimp only [arr1, List.length_cons, List.length_nil, Nat.zero_add, List.map_cons, List.map_nil]
  have hA := args_two (a := arr1 (tV t)) (b := arr1 (dV k)) (c1 := c1) (c2 := c2) HV1.out HV2.out 25
  have HA := Lib.hid hA
  have HBa := Lib.hid (HB.out.alloc HB.out.size (.cells #[.int .i64 (arr1 (tV t)).r, .int .i64 (arr1 (tV t)).c, .slice (some ⟨g1, 0, none⟩) (arr1 (tV t)).vs.length c1, .int .i64 (arr1 (dV k)).r, .int .i64 (arr1 (dV k)).c, .slice (some ⟨g2, 0, none⟩) (arr1 (dV k)).vs.length c2] 25))
  have hbA : Below w2.heap.size w2 (w2.alloc (.cells #[.int .i64 (arr1 (tV t)).r, .int .i64 (arr1 (tV t)).c, .slice (some ⟨g1, 0, none⟩) (arr1 (tV t)).vs.length c1, .int .i64 (arr1 (dV k)).r, .int .i64 (arr1 (dV k)).c, .slice (some ⟨g2, 0, none⟩) (arr1 (dV k)).vs.length c2] 25)) := (Below.refl _ _).alloc (Nat.le_refl _) _
  have CC := Lib.hid (call_left t k (by omega) (by omega) _ 2 _ (HP.out _ HBa.out) HA.out)
  rw [show vText (t.take (min k t.length)) = tV (t.take k) by rw [Nat.min_eq_left hkl, vText_tV (by rw [List.length_take]; omega)]] at CC
  clear hA HA HBa
  dsimp only [arr1, List.length_cons, List.length_nil, Nat.zero_add, List.map_cons, List.map_nil] at CC hbA ⊢
  have HbA := Lib.hid hbA
  clear hbA
  go_wp2_with fail
  refine CC.out.mono ?_
  rintro x w3 ⟨v, rfl, ⟨g3, c3, rfl, hv⟩, hb⟩
  have hb2 := HbA.out.trans (hb.mono HbA.out.size)
  replace HB := Lib.hid (HB.out.trans (hb2.mono HB.out.size))
  replace HV1 := Lib.hid (HV1.out.next hb2)
  replace HV2 := Lib.hid (HV2.out.next hb2)
  have HV3 := Lib.hid hv
  clear hb hb2 hv CC HbA
  dsimp only [arr1, List.length_cons, List.length_nil, Nat.zero_add, List.map_cons, List.map_nil]
  go_upto_region 8 with fail
  have hb2 : Below w3.heap.size w3 (w3.alloc (.cells #[.int .i64 1, .int .i64 1, .slice (some ⟨g3, 0, none⟩) 1 c3] 25)) := (Below.refl _ _).alloc (Nat.le_refl _) _
  replace HB := Lib.hid (HB.out.trans (hb2.mono HB.out.size))
  replace HV1 := Lib.hid (HV1.out.next hb2)
  replace HV2 := Lib.hid (HV2.out.next hb2)
  replace HV3 := Lib.hid (HV3.out.next hb2)
  have HX3 := Lib.hid (Lies.new w3 25 #[.int .i64 1, .int .i64 1, .slice (some ⟨g3, 0, none⟩) 1 c3])
  clear hb2
  generalize w3.alloc (.cells #[.int .i64 1, .int .i64 1, .slice (some ⟨g3, 0, none⟩) 1 c3] 25) = W3 at *
  generalize w3.heap.size = b3 at *
  go_wp2_with fail
  refine (one12_any t _).mono ?_
  rintro x w4 ⟨v, rfl, ⟨g4, c4, rfl, hv⟩, hb⟩
  replace HB := Lib.hid (HB.out.trans (hb.mono HB.out.size))
  replace HV1 := Lib.hid (HV1.out.next hb)
  replace HV2 := Lib.hid (HV2.out.next hb)
  replace HV3 := Lib.hid (HV3.out.next hb)
  replace HX3 := Lib.hid (HX3.out.next hb)
  have HV4 := Lib.hid hv
  clear hb hv
  dsimp only [arr1, List.length_cons, List.length_nil, Nat.zero_add, List.map_cons, List.map_nil]
  go_wp2_with fail
  refine (digit12_any (t.length - k) _).mono ?_
  rintro x w5 ⟨v, rfl, ⟨g5, c5, rfl, hv⟩, hb⟩
  replace HB := Lib.hid (HB.out.trans (hb.mono HB.out.size))
  replace HV1 := Lib.hid (HV1.out.next hb)
  replace HV2 := Lib.hid (HV2.out.next hb)
  replace HV3 := Lib.hid (HV3.out.next hb)
  replace HX3 := Lib.hid (HX3.out.next hb)
  replace HV4 := Lib.hid (HV4.out.next hb)
  have HV5 := Lib.hid hv
  clear hb hv
  dsimp only [arr1, List.length_cons, List.length_nil, Nat.zero_add, List.map_cons, List.map_nil]
  have hA := args_two (a := arr1 (tV t)) (b := arr1 (dV (t.length - k))) (c1 := c4) (c2 := c5) HV4.out HV5.out 25
  have HA := Lib.hid hA
  have HBa := Lib.hid (HB.out.alloc HB.out.size (.cells #[.int .i64 (arr1 (tV t)).r, .int .i64 (arr1 (tV t)).c, .slice (some ⟨g4, 0, none⟩) (arr1 (tV t)).vs.length c4, .int .i64 (arr1 (dV (t.length - k))).r, .int .i64 (arr1 (dV (t.length - k))).c, .slice (some ⟨g5, 0, none⟩) (arr1 (dV (t.length - k))).vs.length c5] 25))
  have hbA : Below w5.heap.size w5 (w5.alloc (.cells #[.int .i64 (arr1 (tV t)).r, .int .i64 (arr1 (tV t)).c, .slice (some ⟨g4, 0, none⟩) (arr1 (tV t)).vs.length c4, .int .i64 (arr1 (dV (t.length - k))).r, .int .i64 (arr1 (dV (t.length - k))).c, .slice (some ⟨g5, 0, none⟩) (arr1 (dV (t.length - k))).vs.length c5] 25)) := (Below.refl _ _).alloc (Nat.le_refl _) _
  have CC := Lib.hid (call_right t (t.length - k) (by omega) (by omega) _ 2 _ (HP.out _ HBa.out) HA.out)
  rw [show vText (t.drop (t.length - min (t.length - k) t.length)) = tV (t.drop k) by rw [Nat.min_eq_left (Nat.sub_le _ _), Nat.sub_sub_self hkl, vText_tV (by rw [List.length_drop]; omega)]] at CC
  clear hA HA HBa
  dsimp only [arr1, List.length_cons, List.length_nil, Nat.zero_add, List.map_cons, List.map_nil] at CC hbA ⊢
  have HbA := Lib.hid hbA
  clear hbA
  go_wp2_with fail
  refine CC.out.mono ?_
  rintro x w6 ⟨v, rfl, ⟨g6, c6, rfl, hv⟩, hb⟩
  have hb2 := HbA.out.trans (hb.mono HbA.out.size)
  replace HB := Lib.hid (HB.out.trans (hb2.mono HB.out.size))
  replace HV1 := Lib.hid (HV1.out.next hb2)
  replace HV2 := Lib.hid (HV2.out.next hb2)
  replace HV3 := Lib.hid (HV3.out.next hb2)
  replace HX3 := Lib.hid (HX3.out.next hb2)
  replace HV4 := Lib.hid (HV4.out.next hb2)
  replace HV5 := Lib.hid (HV5.out.next hb2)
  have HV6 := Lib.hid hv
  clear hb hb2 hv CC HbA
  dsimp only [arr1, List.length_cons, List.length_nil, Nat.zero_add, List.map_cons, List.map_nil]
  go_upto_region 9 with fail
  have hb2 : Below w6.heap.size w6 (w6.alloc (.cells #[.int .i64 1, .int .i64 1, .slice (some ⟨g6, 0, none⟩) 1 c6] 25)) := (Below.refl _ _).alloc (Nat.le_refl _) _
  replace HB := Lib.hid (HB.out.trans (hb2.mono HB.out.size))
  replace HV1 := Lib.hid (HV1.out.next hb2)
  replace HV2 := Lib.hid (HV2.out.next hb2)
  replace HV3 := Lib.hid (HV3.out.next hb2)
  replace HX3 := Lib.hid (HX3.out.next hb2)
  replace HV4 := Lib.hid (HV4.out.next hb2)
  replace HV5 := Lib.hid (HV5.out.next hb2)
  replace HV6 := Lib.hid (HV6.out.next hb2)
  have HX6 := Lib.hid (Lies.new w6 25 #[.int .i64 1, .int .i64 1, .slice (some ⟨g6, 0, none⟩) 1 c6])
  clear hb2
  generalize w6.alloc (.cells #[.int .i64 1, .int .i64 1, .slice (some ⟨g6, 0, none⟩) 1 c6] 25) = W6 at *
  generalize w6.heap.size = b6 at *
  have xa0 := HX3.out.cell 0
  have xa1 := HX3.out.cell 1
  have xa2 := HX3.out.cell 2
  simp only [List.getElem?_toArray, List.getElem?_cons_zero, List.getElem?_cons_succ] at xa0 xa1 xa2
  have xb0 := HX6.out.cell 0
  have xb1 := HX6.out.cell 1
  have xb2 := HX6.out.cell 2
  simp only [List.getElem?_toArray, List.getElem?_cons_zero, List.getElem?_cons_succ] at xb0 xb1 xb2
  have hA := args_two (a := arr1 (tV (t.take k))) (b := arr1 (tV (t.drop k))) (c1 := c3) (c2 := c6) HV3.out HV6.out 25
  have HA := Lib.hid hA
  have HBa := Lib.hid (HB.out.alloc HB.out.size (.cells #[.int .i64 (arr1 (tV (t.take k))).r, .int .i64 (arr1 (tV (t.take k))).c, .slice (some ⟨g3, 0, none⟩) (arr1 (tV (t.take k))).vs.length c3, .int .i64 (arr1 (tV (t.drop k))).r, .int .i64 (arr1 (tV (t.drop k))).c, .slice (some ⟨g6, 0, none⟩) (arr1 (tV (t.drop k))).vs.length c6] 25))
  have hbA : Below W6.heap.size W6 (W6.alloc (.cells #[.int .i64 (arr1 (tV (t.take k))).r, .int .i64 (arr1 (tV (t.take k))).c, .slice (some ⟨g3, 0, none⟩) (arr1 (tV (t.take k))).vs.length c3, .int .i64 (arr1 (tV (t.drop k))).r, .int .i64 (arr1 (tV (t.drop k))).c, .slice (some ⟨g6, 0, none⟩) (arr1 (tV (t.drop k))).vs.length c6] 25)) := (Below.refl _ _).alloc (Nat.le_refl _) _
  have CC := Lib.hid (call_concat (t.take k) (t.drop k) (by rw [List.length_take, List.length_drop]; omega) _ 2 _ (HP.out _ HBa.out) HA.out)
  rw [List.take_append_drop] at CC
  clear hA HA HBa
  dsimp only [arr1, List.length_cons, List.length_nil, Nat.zero_add, List.map_cons, List.map_nil] at CC hbA ⊢
  have HbA := Lib.hid hbA
  clear hbA
  go_wp2_with fail
  clear xa0 xa1 xa2 xb0 xb1 xb2
  refine CC.out.mono ?_
  rintro x w7 ⟨v, rfl, ⟨g7, c7, rfl, hv⟩, hb⟩
  have hb2 := HbA.out.trans (hb.mono HbA.out.size)
  replace HB := Lib.hid (HB.out.trans (hb2.mono HB.out.size))
  replace HV1 := Lib.hid (HV1.out.next hb2)
  replace HV2 := Lib.hid (HV2.out.next hb2)
  replace HV3 := Lib.hid (HV3.out.next hb2)
  replace HX3 := Lib.hid (HX3.out.next hb2)
  replace HV4 := Lib.hid (HV4.out.next hb2)
  replace HV5 := Lib.hid (HV5.out.next hb2)
  replace HV6 := Lib.hid (HV6.out.next hb2)
  replace HX6 := Lib.hid (HX6.out.next hb2)
  have HV7 := Lib.hid hv
  clear hb hb2 hv CC HbA
  dsimp only [arr1, List.length_cons, List.length_nil, Nat.zero_add, List.map_cons, List.map_nil]
  go_upto_region 10 with fail
  have hb2 : Below w7.heap.size w7 (w7.alloc (.cells #[.int .i64 1, .int .i64 1, .slice (some ⟨g7, 0, none⟩) 1 c7] 25)) := (Below.refl _ _).alloc (Nat.le_refl _) _
  replace HB := Lib.hid (HB.out.trans (hb2.mono HB.out.size))
  replace HV1 := Lib.hid (HV1.out.next hb2)
  replace HV2 := Lib.hid (HV2.out.next hb2)
  replace HV3 := Lib.hid (HV3.out.next hb2)
  replace HX3 := Lib.hid (HX3.out.next hb2)
  replace HV4 := Lib.hid (HV4.out.next hb2)
  replace HV5 := Lib.hid (HV5.out.next hb2)
  replace HV6 := Lib.hid (HV6.out.next hb2)
  replace HX6 := Lib.hid (HX6.out.next hb2)
  replace HV7 := Lib.hid (HV7.out.next hb2)
  have HX7 := Lib.hid (Lies.new w7 25 #[.int .i64 1, .int .i64 1, .slice (some ⟨g7, 0, none⟩) 1 c7])
  clear hb2
  generalize w7.alloc (.cells #[.int .i64 1, .int .i64 1, .slice (some ⟨g7, 0, none⟩) 1 c7] 25) = W7 at *
  generalize w7.heap.size = b7 at *
  go_wp2_with fail
  refine (one12_any t _).mono ?_
  rintro x w8 ⟨v, rfl, ⟨g8, c8, rfl, hv⟩, hb⟩
  replace HB := Lib.hid (HB.out.trans (hb.mono HB.out.size))
  replace HV1 := Lib.hid (HV1.out.next hb)
  replace HV2 := Lib.hid (HV2.out.next hb)
  replace HV3 := Lib.hid (HV3.out.next hb)
  replace HX3 := Lib.hid (HX3.out.next hb)
  replace HV4 := Lib.hid (HV4.out.next hb)
  replace HV5 := Lib.hid (HV5.out.next hb)
  replace HV6 := Lib.hid (HV6.out.next hb)
  replace HX6 := Lib.hid (HX6.out.next hb)
  replace HV7 := Lib.hid (HV7.out.next hb)
  replace HX7 := Lib.hid (HX7.out.next hb)
  have HV8 := Lib.hid hv
  clear hb hv
  dsimp only [arr1, List.length_cons, List.length_nil, Nat.zero_add, List.map_cons, List.map_nil]
  go_wp2_with fail
  refine (digit12_any 1 _).mono ?_
  rintro x w9 ⟨v, rfl, ⟨g9, c9, rfl, hv⟩, hb⟩
  replace HB := Lib.hid (HB.out.trans (hb.mono HB.out.size))
  replace HV1 := Lib.hid (HV1.out.next hb)
  replace HV2 := Lib.hid (HV2.out.next hb)
  replace HV3 := Lib.hid (HV3.out.next hb)
  replace HX3 := Lib.hid (HX3.out.next hb)
  replace HV4 := Lib.hid (HV4.out.next hb)
  replace HV5 := Lib.hid (HV5.out.next hb)
  replace HV6 := Lib.hid (HV6.out.next hb)
  replace HX6 := Lib.hid (HX6.out.next hb)
  replace HV7 := Lib.hid (HV7.out.next hb)
  replace HX7 := Lib.hid (HX7.out.next hb)
  replace HV8 := Lib.hid (HV8.out.next hb)
  have HV9 := Lib.hid hv
  clear hb hv
  dsimp only [arr1, List.length_cons, List.length_nil, Nat.zero_add, List.map_cons, List.map_nil]
  go_wp2_with fail
  refine (digit12_any 9 _).mono ?_
  rintro x w10 ⟨v, rfl, ⟨g10, c10, rfl, hv⟩, hb⟩
  replace HB := Lib.hid (HB.out.trans (hb.mono HB.out.size))
  replace HV1 := Lib.hid (HV1.out.next hb)
  replace HV2 := Lib.hid (HV2.out.next hb)
  replace HV3 := Lib.hid (HV3.out.next hb)
  replace HX3 := Lib.hid (HX3.out.next hb)
  replace HV4 := Lib.hid (HV4.out.next hb)
  replace HV5 := Lib.hid (HV5.out.next hb)
  replace HV6 := Lib.hid (HV6.out.next hb)
  replace HX6 := Lib.hid (HX6.out.next hb)
  replace HV7 := Lib.hid (HV7.out.next hb)
  replace HX7 := Lib.hid (HX7.out.next hb)
  replace HV8 := Lib.hid (HV8.out.next hb)
  replace HV9 := Lib.hid (HV9.out.next hb)
  have HV10 := Lib.hid hv
  clear hb hv
  dsimp only [arr1, List.length_cons, List.length_nil, Nat.zero_add, List.map_cons, List.map_nil]
  have hA := args_three (a := arr1 (tV t)) (b := arr1 (dV 1)) (d := arr1 (dV 9)) (c1 := c8) (c2 := c9) (c3 := c10) HV8.out HV9.out HV10.out 25
  have HA := Lib.hid hA
  have HBa := Lib.hid (HB.out.alloc HB.out.size (.cells #[.int .i64 (arr1 (tV t)).r, .int .i64 (arr1 (tV t)).c, .slice (some ⟨g8, 0, none⟩) (arr1 (tV t)).vs.length c8, .int .i64 (arr1 (dV 1)).r, .int .i64 (arr1 (dV 1)).c, .slice (some ⟨g9, 0, none⟩) (arr1 (dV 1)).vs.length c9, .int .i64 (arr1 (dV 9)).r, .int .i64 (arr1 (dV 9)).c, .slice (some ⟨g10, 0, none⟩) (arr1 (dV 9)).vs.length c10] 25))
  have hbA : Below w10.heap.size w10 (w10.alloc (.cells #[.int .i64 (arr1 (tV t)).r, .int .i64 (arr1 (tV t)).c, .slice (some ⟨g8, 0, none⟩) (arr1 (tV t)).vs.length c8, .int .i64 (arr1 (dV 1)).r, .int .i64 (arr1 (dV 1)).c, .slice (some ⟨g9, 0, none⟩) (arr1 (dV 1)).vs.length c9, .int .i64 (arr1 (dV 9)).r, .int .i64 (arr1 (dV 9)).c, .slice (some ⟨g10, 0, none⟩) (arr1 (dV 9)).vs.length c10] 25)) := (Below.refl _ _).alloc (Nat.le_refl _) _
  have CC := Lib.hid (call_mid t 1 9 (by omega) (by omega) (by omega) _ 3 _ (HP.out _ HBa.out) HA.out)
  rw [mid_all t ht] at CC
  clear hA HA HBa
  dsimp only [arr1, List.length_cons, List.length_nil, Nat.zero_add, List.map_cons, List.map_nil] at CC hbA ⊢
  have HbA := Lib.hid hbA
  clear hbA
  go_wp2_with fail
  refine CC.out.mono ?_
  rintro x w11 ⟨v, rfl, ⟨g11, c11, rfl, hv⟩, hb⟩
  have hb2 := HbA.out.trans (hb.mono HbA.out.size)
  replace HB := Lib.hid (HB.out.trans (hb2.mono HB.out.size))
  replace HV1 := Lib.hid (HV1.out.next hb2)
  replace HV2 := Lib.hid (HV2.out.next hb2)
  replace HV3 := Lib.hid (HV3.out.next hb2)
  replace HX3 := Lib.hid (HX3.out.next hb2)
  replace HV4 := Lib.hid (HV4.out.next hb2)
  replace HV5 := Lib.hid (HV5.out.next hb2)
  replace HV6 := Lib.hid (HV6.out.next hb2)
  replace HX6 := Lib.hid (HX6.out.next hb2)
  replace HV7 := Lib.hid (HV7.out.next hb2)
  replace HX7 := Lib.hid (HX7.out.next hb2)
  replace HV8 := Lib.hid (HV8.out.next hb2)
  replace HV9 := Lib.hid (HV9.out.next hb2)
  replace HV10 := Lib.hid (HV10.out.next hb2)
  have HV11 := Lib.hid hv
  clear hb hb2 hv CC HbA
  dsimp only [arr1, List.length_cons, List.length_nil, Nat.zero_add, List.map_cons, List.map_nil]
  go_upto_region 11 with fail
  have hb2 : Below w11.heap.size w11 (w11.alloc (.cells #[.int .i64 1, .int .i64 1, .slice (some ⟨g11, 0, none⟩) 1 c11] 25)) := (Below.refl _ _).alloc (Nat.le_refl _) _
  replace HB := Lib.hid (HB.out.trans (hb2.mono HB.out.size))
  replace HV1 := Lib.hid (HV1.out.next hb2)
  replace HV2 := Lib.hid (HV2.out.next hb2)
  replace HV3 := Lib.hid (HV3.out.next hb2)
  replace HX3 := Lib.hid (HX3.out.next hb2)
  replace HV4 := Lib.hid (HV4.out.next hb2)
  replace HV5 := Lib.hid (HV5.out.next hb2)
  replace HV6 := Lib.hid (HV6.out.next hb2)
  replace HX6 := Lib.hid (HX6.out.next hb2)
  replace HV7 := Lib.hid (HV7.out.next hb2)
  replace HX7 := Lib.hid (HX7.out.next hb2)
  replace HV8 := Lib.hid (HV8.out.next hb2)
  replace HV9 := Lib.hid (HV9.out.next hb2)
  replace HV10 := Lib.hid (HV10.out.next hb2)
  replace HV11 := Lib.hid (HV11.out.next hb2)
  have HX11 := Lib.hid (Lies.new w11 25 #[.int .i64 1, .int .i64 1, .slice (some ⟨g11, 0, none⟩) 1 c11])
  clear hb2
  generalize w11.alloc (.cells #[.int .i64 1, .int .i64 1, .slice (some ⟨g11, 0, none⟩) 1 c11] 25) = W11 at *
  generalize w11.heap.size = b11 at *
  go_wp2_with fail
  refine (one12_any t _).mono ?_
  rintro x w12 ⟨v, rfl, ⟨g12, c12, rfl, hv⟩, hb⟩
  replace HB := Lib.hid (HB.out.trans (hb.mono HB.out.size))
  replace HV1 := Lib.hid (HV1.out.next hb)
  replace HV2 := Lib.hid (HV2.out.next hb)
  replace HV3 := Lib.hid (HV3.out.next hb)
  replace HX3 := Lib.hid (HX3.out.next hb)
  replace HV4 := Lib.hid (HV4.out.next hb)
  replace HV5 := Lib.hid (HV5.out.next hb)
  replace HV6 := Lib.hid (HV6.out.next hb)
  replace HX6 := Lib.hid (HX6.out.next hb)
  replace HV7 := Lib.hid (HV7.out.next hb)
  replace HX7 := Lib.hid (HX7.out.next hb)
  replace HV8 := Lib.hid (HV8.out.next hb)
  replace HV9 := Lib.hid (HV9.out.next hb)
  replace HV10 := Lib.hid (HV10.out.next hb)
  replace HV11 := Lib.hid (HV11.out.next hb)
  replace HX11 := Lib.hid (HX11.out.next hb)
  have HV12 := Lib.hid hv
  clear hb hv
  dsimp only [arr1, List.length_cons, List.length_nil, Nat.zero_add, List.map_cons, List.map_nil]
  go_wp2_with fail
  refine (digit12_any a10 _).mono ?_
  rintro x w13 ⟨v, rfl, ⟨g13, c13, rfl, hv⟩, hb⟩
  replace HB := Lib.hid (HB.out.trans (hb.mono HB.out.size))
  replace HV1 := Lib.hid (HV1.out.next hb)
  replace HV2 := Lib.hid (HV2.out.next hb)
  replace HV3 := Lib.hid (HV3.out.next hb)
  replace HX3 := Lib.hid (HX3.out.next hb)
  replace HV4 := Lib.hid (HV4.out.next hb)
  replace HV5 := Lib.hid (HV5.out.next hb)
  replace HV6 := Lib.hid (HV6.out.next hb)
  replace HX6 := Lib.hid (HX6.out.next hb)
  replace HV7 := Lib.hid (HV7.out.next hb)
  replace HX7 := Lib.hid (HX7.out.next hb)
  replace HV8 := Lib.hid (HV8.out.next hb)
  replace HV9 := Lib.hid (HV9.out.next hb)
  replace HV10 := Lib.hid (HV10.out.next hb)
  replace HV11 := Lib.hid (HV11.out.next hb)
  replace HX11 := Lib.hid (HX11.out.next hb)
  replace HV12 := Lib.hid (HV12.out.next hb)
  have HV13 := Lib.hid hv
  clear hb hv
  dsimp only [arr1, List.length_cons, List.length_nil, Nat.zero_add, List.map_cons, List.map_nil]
  go_wp2_with fail
  refine (digit12_any k _).mono ?_
  rintro x w14 ⟨v, rfl, ⟨g14, c14, rfl, hv⟩, hb⟩
  replace HB := Lib.hid (HB.out.trans (hb.mono HB.out.size))
  replace HV1 := Lib.hid (HV1.out.next hb)
  replace HV2 := Lib.hid (HV2.out.next hb)
  replace HV3 := Lib.hid (HV3.out.next hb)
  replace HX3 := Lib.hid (HX3.out.next hb)
  replace HV4 := Lib.hid (HV4.out.next hb)
  replace HV5 := Lib.hid (HV5.out.next hb)
  replace HV6 := Lib.hid (HV6.out.next hb)
  replace HX6 := Lib.hid (HX6.out.next hb)
  replace HV7 := Lib.hid (HV7.out.next hb)
  replace HX7 := Lib.hid (HX7.out.next hb)
  replace HV8 := Lib.hid (HV8.out.next hb)
  replace HV9 := Lib.hid (HV9.out.next hb)
  replace HV10 := Lib.hid (HV10.out.next hb)
  replace HV11 := Lib.hid (HV11.out.next hb)
  replace HX11 := Lib.hid (HX11.out.next hb)
  replace HV12 := Lib.hid (HV12.out.next hb)
  replace HV13 := Lib.hid (HV13.out.next hb)
  have HV14 := Lib.hid hv
  clear hb hv
  dsimp only [arr1, List.length_cons, List.length_nil, Nat.zero_add, List.map_cons, List.map_nil]
  have hA := args_three (a := arr1 (tV t)) (b := arr1 (dV a10)) (d := arr1 (dV k)) (c1 := c12) (c2 := c13) (c3 := c14) HV12.out HV13.out HV14.out 25
  have HA := Lib.hid hA
  have HBa := Lib.hid (HB.out.alloc HB.out.size (.cells #[.int .i64 (arr1 (tV t)).r, .int .i64 (arr1 (tV t)).c, .slice (some ⟨g12, 0, none⟩) (arr1 (tV t)).vs.length c12, .int .i64 (arr1 (dV a10)).r, .int .i64 (arr1 (dV a10)).c, .slice (some ⟨g13, 0, none⟩) (arr1 (dV a10)).vs.length c13, .int .i64 (arr1 (dV k)).r, .int .i64 (arr1 (dV k)).c, .slice (some ⟨g14, 0, none⟩) (arr1 (dV k)).vs.length c14] 25))
  have hbA : Below w14.heap.size w14 (w14.alloc (.cells #[.int .i64 (arr1 (tV t)).r, .int .i64 (arr1 (tV t)).c, .slice (some ⟨g12, 0, none⟩) (arr1 (tV t)).vs.length c12, .int .i64 (arr1 (dV a10)).r, .int .i64 (arr1 (dV a10)).c, .slice (some ⟨g13, 0, none⟩) (arr1 (dV a10)).vs.length c13, .int .i64 (arr1 (dV k)).r, .int .i64 (arr1 (dV k)).c, .slice (some ⟨g14, 0, none⟩) (arr1 (dV k)).vs.length c14] 25)) := (Below.refl _ _).alloc (Nat.le_refl _) _
  have CC := Lib.hid (call_mid t a10 k (by omega) (by omega) (by omega) _ 3 _ (HP.out _ HBa.out) HA.out)
  rw [← hve.out] at CC
  clear hA HA HBa
  dsimp only [arr1, List.length_cons, List.length_nil, Nat.zero_add, List.map_cons, List.map_nil] at CC hbA ⊢
  have HbA := Lib.hid hbA
  clear hbA
  go_wp2_with fail
  refine CC.out.mono ?_
  rintro x w15 ⟨v, rfl, ⟨g15, c15, rfl, hv⟩, hb⟩
  have hb2 := HbA.out.trans (hb.mono HbA.out.size)
  replace HB := Lib.hid (HB.out.trans (hb2.mono HB.out.size))
  replace HV1 := Lib.hid (HV1.out.next hb2)
  replace HV2 := Lib.hid (HV2.out.next hb2)
  replace HV3 := Lib.hid (HV3.out.next hb2)
  replace HX3 := Lib.hid (HX3.out.next hb2)
  replace HV4 := Lib.hid (HV4.out.next hb2)
  replace HV5 := Lib.hid (HV5.out.next hb2)
  replace HV6 := Lib.hid (HV6.out.next hb2)
  replace HX6 := Lib.hid (HX6.out.next hb2)
  replace HV7 := Lib.hid (HV7.out.next hb2)
  replace HX7 := Lib.hid (HX7.out.next hb2)
  replace HV8 := Lib.hid (HV8.out.next hb2)
  replace HV9 := Lib.hid (HV9.out.next hb2)
  replace HV10 := Lib.hid (HV10.out.next hb2)
  replace HV11 := Lib.hid (HV11.out.next hb2)
  replace HX11 := Lib.hid (HX11.out.next hb2)
  replace HV12 := Lib.hid (HV12.out.next hb2)
  replace HV13 := Lib.hid (HV13.out.next hb2)
  replace HV14 := Lib.hid (HV14.out.next hb2)
  have HV15 := Lib.hid hv
  clear hb hb2 hv CC HbA
  dsimp only [arr1, List.length_cons, List.length_nil, Nat.zero_add, List.map_cons, List.map_nil]
  go_upto_region 12 with fail
  have hb2 : Below w15.heap.size w15 (w15.alloc (.cells #[.int .i64 1, .int .i64 1, .slice (some ⟨g15, 0, none⟩) 1 c15] 25)) := (Below.refl _ _).alloc (Nat.le_refl _) _
  replace HB := Lib.hid (HB.out.trans (hb2.mono HB.out.size))
  replace HV1 := Lib.hid (HV1.out.next hb2)
  replace HV2 := Lib.hid (HV2.out.next hb2)
  replace HV3 := Lib.hid (HV3.out.next hb2)
  replace HX3 := Lib.hid (HX3.out.next hb2)
  replace HV4 := Lib.hid (HV4.out.next hb2)
  replace HV5 := Lib.hid (HV5.out.next hb2)
  replace HV6 := Lib.hid (HV6.out.next hb2)
  replace HX6 := Lib.hid (HX6.out.next hb2)
  replace HV7 := Lib.hid (HV7.out.next hb2)
  replace HX7 := Lib.hid (HX7.out.next hb2)
  replace HV8 := Lib.hid (HV8.out.next hb2)
  replace HV9 := Lib.hid (HV9.out.next hb2)
  replace HV10 := Lib.hid (HV10.out.next hb2)
  replace HV11 := Lib.hid (HV11.out.next hb2)
  replace HX11 := Lib.hid (HX11.out.next hb2)
  replace HV12 := Lib.hid (HV12.out.next hb2)
  replace HV13 := Lib.hid (HV13.out.next hb2)
  replace HV14 := Lib.hid (HV14.out.next hb2)
  replace HV15 := Lib.hid (HV15.out.next hb2)
  have HX15 := Lib.hid (Lies.new w15 25 #[.int .i64 1, .int .i64 1, .slice (some ⟨g15, 0, none⟩) 1 c15])
  clear hb2
  generalize w15.alloc (.cells #[.int .i64 1, .int .i64 1, .slice (some ⟨g15, 0, none⟩) 1 c15] 25) = W15 at *
  generalize w15.heap.size = b15 at *
  have HCon := Lib.hid (fun W b (hb : Below W15.heap.size W15 W) hA => hCF.out W b (HP.out _ (HB.out.trans (hb.mono HB.out.size))) (HM.out _ (HB.out.trans (hb.mono HB.out.size))) hA)
  clear hCF
  clear HV1 HV2 HV3 HX3 HV4 HV5 HV6 HX6 HV8 HV9 HV10 HV12 HV13 HV14
  obtain ⟨TT, hTT⟩ : ∃ TT : List (Nat × Nat × (Value → World → Prop)), TT = [(0, 89, Is (.agg #[.int .i64 1, .int .i64 1, .slice (some ⟨g15, 0, none⟩) 1 c15])), (1, 90, Is (.string ⟨(t).toArray⟩)), (2, 91, PA (arr1 (tV t))), (3, 92, PAr 2 [arr1 ve, arr1 (tV t)]), (4, 93, PR (arr1 vf)), (5, 88, PR (arr1 vf)), (6, 94, PA (arr1 vf)), (7, 95, Is (.bool true)), (10, 20, Is (.bool true))] := ⟨_, rfl⟩
  have hcE : ∀ args W, (callFunc 9 args).run Tryz.prog W = .ok (.enter 9 args) W := enters_of Tryz.func9 (by kernel_rfl) rfl
  have hoE : ∀ args W, (callFunc 10 args).run Tryz.prog W = .ok (.enter 10 args) W := enters_of Tryz.func10 (by kernel_rfl) rfl
  have HcE := Lib.hid hcE
  have HoE := Lib.hid hoE
  have HTT := Lib.hid hTT
  clear hcE hoE hTT
  go_cut [19, 20] from 154 (fun vA vB wy => ∃ bx g cap : Nat, vA = .pointer (some ⟨bx, 0, none⟩) ∧ vB = .bool true ∧ W15.heap.size ≤ bx ∧ Hid (Lies wy bx 25 #[.int .i64 (arr1 vf).r, .int .i64 (arr1 vf).c, .slice (some ⟨g, 0, none⟩) (arr1 vf).vs.length cap]) ∧ Hid (VP wy g (arr1 vf).vs) ∧ Hid (Below W15.heap.size W15 wy))
  case first =>
    refine wp_region_invB (by kernel_rfl) (by kernel_rfl) (fun a0 => 154 ≤ a0.tmps.size ∧ a0.eval (.tmp 17) = .pointer (some ⟨b15, 0, none⟩) ∧ a0.eval (.tmp 0) = .string ⟨t.toArray⟩) (GI [89, 90, 91, 92, 93, 88, 94, 95, 19, 20] TT W15 8 19 9 25 #[.int .i64 0, .int .i64 0, .slice none 0 0] (PC (arr1 vf))) ⟨by simp, rfl, rfl⟩ (GI.start _ _ (Below.refl _ _).drew) ?_ ?_
    · rintro a0 ⟨hs, h17, h0⟩ listed a1 w1 j o hsz hI hun ho hdeps
      have hTT := HTT.out
      subst hTT
      have hk : GOk [89, 90, 91, 92, 93, 88, 94, 95, 19, 20] [(0, 89, Is (.agg #[.int .i64 1, .int .i64 1, .slice (some ⟨g15, 0, none⟩) 1 c15])), (1, 90, Is (.string ⟨(t).toArray⟩)), (2, 91, PA (arr1 (tV t))), (3, 92, PAr 2 [arr1 ve, arr1 (tV t)]), (4, 93, PR (arr1 vf)), (5, 88, PR (arr1 vf)), (6, 94, PA (arr1 vf)), (7, 95, Is (.bool true)), (10, 20, Is (.bool true))] 8 19 9 154 25 3 (PC (arr1 vf)) := ⟨rfl, by
        intro e he
        simp only [List.mem_cons, List.not_mem_nil, or_false] at he
        rcases he with rfl | rfl | rfl | rfl | rfl | rfl | rfl | rfl | rfl
        · exact last_is _ _ _
        · exact last_is _ _ _
        · exact last_PA _
        · exact last_PAr _ _ (by decide)
        · exact last_PR _
        · exact last_PR _
        · exact last_PA _
        · exact last_is _ _ _
        · exact last_is _ _ _
        , pc_grow _, pc_put _⟩
      have hj := Up.of_false hun
      have hj12 : j < 11 := by rw [hsz] at hj; exact hj
      have e17 : a1.eval (.tmp 17) = .pointer (some ⟨b15, 0, none⟩) := (hI.off.eval (by decide)).trans h17
      have e0 : a1.eval (.tmp 0) = .string ⟨t.toArray⟩ := (hI.off.eval (by decide)).trans h0
      have hLx : Lies w1 b15 25 #[.int .i64 1, .int .i64 1, .slice (some ⟨g15, 0, none⟩) 1 c15] := HX15.out.next hI.bel
      have m0 := hLx.cell 0
      have m1 := hLx.cell 1
      have m2 := hLx.cell 2
      simp only [List.getElem?_toArray, List.getElem?_cons_zero, List.getElem?_cons_succ] at m0 m1 m2
      rcases (by omega : j = 0 ∨ j = 1 ∨ j = 2 ∨ j = 3 ∨ j = 4 ∨ j = 5 ∨ j = 6 ∨ j = 7 ∨ j = 8 ∨ j = 9 ∨ j = 10) with rfl | rfl | rfl | rfl | rfl | rfl | rfl | rfl | rfl | rfl | rfl
      · have ho2 := ho
        simp only [List.getElem?_toArray, List.getElem?_cons_zero, Option.some.injEq] at ho2
        subst ho2
        exact gi_val hk hI hs (.head _) (.agg #[.int .i64 1, .int .i64 1, .slice (some ⟨g15, 0, none⟩) 1 c15]) _ hun ho rfl rfl (by simp [execOp, go_sem, tget e17, m0, m1, m2]) (Below.refl _ _) rfl
      · have ho2 := ho
        simp only [List.getElem?_toArray, List.getElem?_cons_zero, List.getElem?_cons_succ, Option.some.injEq] at ho2
        subst ho2
        exact gi_val hk hI hs (.tail _ (.head _)) (.string ⟨(t).toArray⟩) _ hun ho rfl rfl (by simp [execOp, go_sem, tget e0]) (Below.refl _ _) rfl
      · have ho2 := ho
        simp only [List.getElem?_toArray, List.getElem?_cons_zero, List.getElem?_cons_succ, Option.some.injEq] at ho2
        subst ho2
        have d1 : Up listed 1 := hdeps { on := 1, ground := .data } (by simp) rfl
        have p1 : a1.eval (.tmp 90) = .string ⟨(t).toArray⟩ := hI.pt (1, 90, Is (.string ⟨(t).toArray⟩)) (.tail _ (.head _)) d1
        refine gi_call hk hI hs (.tail _ (.tail _ (.head _))) 10 #[.string ⟨(t).toArray⟩] hun ho rfl rfl (by simp [go_sem, tget p1, HoE.out]) ?_
        refine (one12_any t w1).mono ?_
        rintro e w2 ⟨v, rfl, h, hb⟩
        exact ⟨v, rfl, hb, h⟩
      · have ho2 := ho
        simp only [List.getElem?_toArray, List.getElem?_cons_zero, List.getElem?_cons_succ, Option.some.injEq] at ho2
        subst ho2
        have d0 : Up listed 0 := hdeps { on := 0, ground := .data } (by simp) rfl
        have p0 : a1.eval (.tmp 89) = (.agg #[.int .i64 1, .int .i64 1, .slice (some ⟨g15, 0, none⟩) 1 c15]) := hI.pt (0, 89, Is (.agg #[.int .i64 1, .int .i64 1, .slice (some ⟨g15, 0, none⟩) 1 c15])) (.head _) d0
        have hv0 := HV15.out.next hI.bel
        have d2 : Up listed 2 := hdeps { on := 2, ground := .data } (by simp) rfl
        obtain ⟨gq2, cq2, p2, hv2⟩ := hI.pt (2, 91, PA (arr1 (tV t))) (.tail _ (.tail _ (.head _))) d2
        exact gi_val hk hI hs (.tail _ (.tail _ (.tail _ (.head _)))) (.slice (some ⟨w1.heap.size, 0, none⟩) 2 2) _ hun ho rfl rfl (by simp [execOp, go_sem, tget p0, tget p2, arr1]) ((Below.refl _ _).alloc (Nat.le_refl _) _) ⟨_, _, rfl, Lies.new _ _ _, rfl, args_two (a := arr1 ve) (c1 := c15) (b := arr1 (tV t)) (c2 := cq2) hv0 hv2 25⟩
      · have ho2 := ho
        simp only [List.getElem?_toArray, List.getElem?_cons_zero, List.getElem?_cons_succ, Option.some.injEq] at ho2
        subst ho2
        have d3 : Up listed 3 := hdeps { on := 3, ground := .data } (by simp) rfl
        obtain ⟨gq, csq, p3, -, -, hA⟩ := hI.pt (3, 92, PAr 2 [arr1 ve, arr1 (tV t)]) (.tail _ (.tail _ (.tail _ (.head _)))) d3
        refine gi_call hk hI hs (.tail _ (.tail _ (.tail _ (.tail _ (.head _))))) 9 #[.string ⟨#[70, 73, 78, 68]⟩, .slice (some ⟨gq, 0, none⟩) 2 2] hun ho rfl rfl (by simp [go_sem, tget p3, HcE.out]) ?_
        refine (HCon.out w1 gq hI.bel hA).mono ?_
        rintro e w2 ⟨v, rfl, h, hb⟩
        exact ⟨_, rfl, hb, v, rfl, h⟩
      · have ho2 := ho
        simp only [List.getElem?_toArray, List.getElem?_cons_zero, List.getElem?_cons_succ, Option.some.injEq] at ho2
        subst ho2
        have d4 : Up listed 4 := hdeps { on := 4, ground := .data } (by simp) rfl
        obtain ⟨u, p4, h⟩ := hI.pt (4, 93, PR (arr1 vf)) (.tail _ (.tail _ (.tail _ (.tail _ (.head _))))) d4
        exact gi_val hk hI hs (.tail _ (.tail _ (.tail _ (.tail _ (.tail _ (.head _)))))) (.tuple #[u, .bool true]) _ hun ho rfl rfl (by simp [execOp, go_sem, tget p4]) (Below.refl _ _) ⟨u, rfl, h⟩
      · have ho2 := ho
        simp only [List.getElem?_toArray, List.getElem?_cons_zero, List.getElem?_cons_succ, Option.some.injEq] at ho2
        subst ho2
        have d5 : Up listed 5 := hdeps { on := 5, ground := .data } (by simp) rfl
        obtain ⟨u, p5, h⟩ := hI.pt (5, 88, PR (arr1 vf)) (.tail _ (.tail _ (.tail _ (.tail _ (.tail _ (.head _)))))) d5
        exact gi_val hk hI hs (.tail _ (.tail _ (.tail _ (.tail _ (.tail _ (.tail _ (.head _))))))) u _ hun ho rfl rfl (by simp [execOp, go_sem, tget p5]) (Below.refl _ _) h
      · have ho2 := ho
        simp only [List.getElem?_toArray, List.getElem?_cons_zero, List.getElem?_cons_succ, Option.some.injEq] at ho2
        subst ho2
        have d5 : Up listed 5 := hdeps { on := 5, ground := .data } (by simp) rfl
        obtain ⟨u, p5, h⟩ := hI.pt (5, 88, PR (arr1 vf)) (.tail _ (.tail _ (.tail _ (.tail _ (.tail _ (.head _)))))) d5
        exact gi_val hk hI hs (.tail _ (.tail _ (.tail _ (.tail _ (.tail _ (.tail _ (.tail _ (.head _)))))))) (.bool true) _ hun ho rfl rfl (by simp [execOp, go_sem, tget p5]) (Below.refl _ _) rfl
      · have ho2 := ho
        simp only [List.getElem?_toArray, List.getElem?_cons_zero, List.getElem?_cons_succ, Option.some.injEq] at ho2
        subst ho2
        exact gi_alloc hk hI hs hun ho rfl rfl (fun W => by simp [execOp, go_sem])
      · have ho2 := ho
        simp only [List.getElem?_toArray, List.getElem?_cons_zero, List.getElem?_cons_succ, Option.some.injEq] at ho2
        subst ho2
        have d8 : Up listed 8 := hdeps { on := 8, ground := .data } (by simp) rfl
        have d6 : Up listed 6 := hdeps { on := 6, ground := .data } (by simp) rfl
        obtain ⟨gq, cq, p6, hv⟩ := hI.pt (6, 94, PA (arr1 vf)) (.tail _ (.tail _ (.tail _ (.tail _ (.tail _ (.tail _ (.head _))))))) d6
        exact gi_store hk hI hun ho rfl rfl d8 [.int .i64 (arr1 vf).r, .int .i64 (arr1 vf).c, .slice (some ⟨gq, 0, none⟩) (arr1 vf).vs.length cq] rfl rfl ⟨gq, cq, rfl, hv⟩ (fun bx g1 g2 => by
          have c0 := g2.cell 0
          have k0 := g2.frozen 0
          have c1 := g2.cell 1
          have k1 := g2.frozen 1
          have c2 := g2.cell 2
          have k2 := g2.frozen 2
          simp at c0 c1 c2
          simp [execOp, go_sem, tget p6, tget g1, putL, c0, k0, c1, k1, c2, k2])
      · have ho2 := ho
        simp only [List.getElem?_toArray, List.getElem?_cons_zero, List.getElem?_cons_succ, Option.some.injEq] at ho2
        subst ho2
        have d7 : Up listed 7 := hdeps { on := 7, ground := .data } (by simp) rfl
        have p7 : a1.eval (.tmp 95) = .bool true := hI.pt (7, 95, Is (.bool true)) (.tail _ (.tail _ (.tail _ (.tail _ (.tail _ (.tail _ (.tail _ (.head _)))))))) d7
        exact gi_val hk hI hs (.tail _ (.tail _ (.tail _ (.tail _ (.tail _ (.tail _ (.tail _ (.tail _ (.head _))))))))) (.bool true) _ hun ho rfl rfl (by simp [execOp, go_sem, tget p7]) (Below.refl _ _) rfl
    · intro listed a1 w1 hI hup
      have hTT := HTT.out
      subst hTT
      obtain ⟨bx, b1, b2, -, b4⟩ := hI.al (hup 8 (by decide))
      obtain ⟨c, ⟨gq, cq, rfl, hv⟩, hl2⟩ := b4 (hup 9 (by decide))
      have hasg : a1.eval (.tmp 20) = .bool true := hI.pt (10, 20, Is (.bool true)) (.tail _ (.tail _ (.tail _ (.tail _ (.tail _ (.tail _ (.tail _ (.tail _ (.head _))))))))) (hup 10 (by decide))
      have hbel := hI.bel
      obtain ⟨ff, rfl, hf⟩ := hI.off.forms
      have fA : ff 19 = .pointer (some ⟨bx, 0, none⟩) := (hf 19).trans b1
      have fB : ff 20 = .bool true := (hf 20).trans hasg
      clear hI
      simp only [List.foldl, Act.put, List.setIfInBounds_toArray, List.set, fA, fB]
      simp only [Exit.then]
      go_step
      go_meet
      exact ⟨bx, gq, cq, rfl, rfl, b2, Lib.hid hl2, Lib.hid hv, Lib.hid hbel⟩
  case rest =>
    obtain ⟨b16, g16, c16, rfl, rfl, -, HX16, HV16, HBe⟩ := hcut
    clear HTT HcE HoE
    replace HB := Lib.hid (HB.out.trans (HBe.out.mono HB.out.size))
    replace HV7 := Lib.hid (HV7.out.next HBe.out)
    replace HX7 := Lib.hid (HX7.out.next HBe.out)
    replace HV11 := Lib.hid (HV11.out.next HBe.out)
    replace HX11 := Lib.hid (HX11.out.next HBe.out)
    replace HV15 := Lib.hid (HV15.out.next HBe.out)
    replace HX15 := Lib.hid (HX15.out.next HBe.out)
    clear HBe
    go_upto_region 13 with fail
    have CO := Lib.hid (fun W => one12_s t W)
    have CS := Lib.hid (fun W g1 c1 g2 c2 h1 h2 => rsame09_s (tV t) g1 c1 g2 c2 W h1 h2)
    clear HV15 HX15
    by_cases ha9 : a ≤ 9
    · obtain ⟨i, rfl, hi1, hia⟩ := hfin.out ha9
      have hd : decide ((9 : Int) < (a : Int)) = false := decide_eq_false (by omega)
      have hi1' : (1 : Int) ≤ (i : Int) := by omega
      have hia' : (i : Int) ≤ (a : Int) := by omega
      clear hi1 hia ha9
      have y0 : wc.cell? ⟨g16, 0, none⟩ = some (.int .i64 1) := HV16.out.cell 0 (by simp [arr1]) 0 (by decide)
      have y1 : wc.cell? ⟨g16, 1, none⟩ = some (.int .i64 i) := HV16.out.cell 0 (by simp [arr1]) 1 (by decide)
      have y2 : wc.cell? ⟨g16, 2, none⟩ = some (.int .i64 0) := HV16.out.cell 0 (by simp [arr1]) 2 (by decide)
      have hx7 := HX7.out.lt
      have hv7 := HV7.out.lt
      have x7_0 := HX7.out.cell 0
      have x7_1 := HX7.out.cell 1
      have x7_2 := HX7.out.cell 2
      simp only [List.getElem?_toArray, List.getElem?_cons_zero, List.getElem?_cons_succ] at x7_0 x7_1 x7_2
      have hx11 := HX11.out.lt
      have hv11 := HV11.out.lt
      have x11_0 := HX11.out.cell 0
      have x11_1 := HX11.out.cell 1
      have x11_2 := HX11.out.cell 2
      simp only [List.getElem?_toArray, List.getElem?_cons_zero, List.getElem?_cons_succ] at x11_0 x11_1 x11_2
      have hx16 := HX16.out.lt
      have hv16 := HV16.out.lt
      have x16_0 := HX16.out.cell 0
      have x16_1 := HX16.out.cell 1
      have x16_2 := HX16.out.cell 2
      simp only [List.getElem?_toArray, List.getElem?_cons_zero, List.getElem?_cons_succ] at x16_0 x16_1 x16_2
      have HSn : Hid (∀ wa, Below wc.heap.size wc wa → wa.cell? ⟨b7, 0, none⟩ = some (.int .i64 1) ∧ wa.cell? ⟨b7, 1, none⟩ = some (.int .i64 1) ∧ wa.cell? ⟨b7, 2, none⟩ = some (.slice (some ⟨g7, 0, none⟩) 1 c7) ∧ wa.cell? ⟨b11, 0, none⟩ = some (.int .i64 1) ∧ wa.cell? ⟨b11, 1, none⟩ = some (.int .i64 1) ∧ wa.cell? ⟨b11, 2, none⟩ = some (.slice (some ⟨g11, 0, none⟩) 1 c11) ∧ wa.cell? ⟨b16, 0, none⟩ = some (.int .i64 1) ∧ wa.cell? ⟨b16, 1, none⟩ = some (.int .i64 1) ∧ wa.cell? ⟨b16, 2, none⟩ = some (.slice (some ⟨g16, 0, none⟩) 1 c16) ∧ wa.cell? ⟨g16, 0, none⟩ = some (.int .i64 1) ∧ wa.cell? ⟨g16, 1, none⟩ = some (.int .i64 i) ∧ wa.cell? ⟨g16, 2, none⟩ = some (.int .i64 0) ∧ Below wc.heap.size wc wa) := Lib.hid (fun wa h => ⟨(h.cell (p := ⟨b7, 0, none⟩) hx7).trans x7_0, (h.cell (p := ⟨b7, 1, none⟩) hx7).trans x7_1, (h.cell (p := ⟨b7, 2, none⟩) hx7).trans x7_2, (h.cell (p := ⟨b11, 0, none⟩) hx11).trans x11_0, (h.cell (p := ⟨b11, 1, none⟩) hx11).trans x11_1, (h.cell (p := ⟨b11, 2, none⟩) hx11).trans x11_2, (h.cell (p := ⟨b16, 0, none⟩) hx16).trans x16_0, (h.cell (p := ⟨b16, 1, none⟩) hx16).trans x16_1, (h.cell (p := ⟨b16, 2, none⟩) hx16).trans x16_2, (h.cell (p := ⟨g16, 0, none⟩) hv16).trans y0, (h.cell (p := ⟨g16, 1, none⟩) hv16).trans y1, (h.cell (p := ⟨g16, 2, none⟩) hv16).trans y2, h⟩)
      have HSD : Hid (wc.drew.cell? ⟨b7, 0, none⟩ = some (.int .i64 1) ∧ wc.drew.cell? ⟨b7, 1, none⟩ = some (.int .i64 1) ∧ wc.drew.cell? ⟨b7, 2, none⟩ = some (.slice (some ⟨g7, 0, none⟩) 1 c7) ∧ wc.drew.cell? ⟨b11, 0, none⟩ = some (.int .i64 1) ∧ wc.drew.cell? ⟨b11, 1, none⟩ = some (.int .i64 1) ∧ wc.drew.cell? ⟨b11, 2, none⟩ = some (.slice (some ⟨g11, 0, none⟩) 1 c11) ∧ wc.drew.cell? ⟨b16, 0, none⟩ = some (.int .i64 1) ∧ wc.drew.cell? ⟨b16, 1, none⟩ = some (.int .i64 1) ∧ wc.drew.cell? ⟨b16, 2, none⟩ = some (.slice (some ⟨g16, 0, none⟩) 1 c16) ∧ wc.drew.cell? ⟨g16, 0, none⟩ = some (.int .i64 1) ∧ wc.drew.cell? ⟨g16, 1, none⟩ = some (.int .i64 i) ∧ wc.drew.cell? ⟨g16, 2, none⟩ = some (.int .i64 0) ∧ Below wc.heap.size wc wc.drew) := Lib.hid ⟨x7_0, x7_1, x7_2, x11_0, x11_1, x11_2, x16_0, x16_1, x16_2, y0, y1, y2, (Below.refl _ _).drew⟩
      have HF7 := Lib.hid (fun wa (h : Below wc.heap.size wc wa) => HV7.out.next h)
      have HF11 := Lib.hid (fun wa (h : Below wc.heap.size wc wa) => HV11.out.next h)
      have HF16 := Lib.hid (fun wa (h : Below wc.heap.size wc wa) => HV16.out.next h)
      clear hv11 hv16 hv7 hx11 hx16 hx7 x11_0 x11_1 x11_2 x16_0 x16_1 x16_2 x7_0 x7_1 x7_2 y0 y1 y2
      have HBx : Hid (Below wc.heap.size wc wc.drew) := Lib.hid (Below.refl _ _).drew
      go_region_held3 (fun w' => w'.cell? ⟨b7, 0, none⟩ = some (.int .i64 1) ∧ w'.cell? ⟨b7, 1, none⟩ = some (.int .i64 1) ∧ w'.cell? ⟨b7, 2, none⟩ = some (.slice (some ⟨g7, 0, none⟩) 1 c7) ∧ w'.cell? ⟨b11, 0, none⟩ = some (.int .i64 1) ∧ w'.cell? ⟨b11, 1, none⟩ = some (.int .i64 1) ∧ w'.cell? ⟨b11, 2, none⟩ = some (.slice (some ⟨g11, 0, none⟩) 1 c11) ∧ w'.cell? ⟨b16, 0, none⟩ = some (.int .i64 1) ∧ w'.cell? ⟨b16, 1, none⟩ = some (.int .i64 1) ∧ w'.cell? ⟨b16, 2, none⟩ = some (.slice (some ⟨g16, 0, none⟩) 1 c16) ∧ w'.cell? ⟨g16, 0, none⟩ = some (.int .i64 1) ∧ w'.cell? ⟨g16, 1, none⟩ = some (.int .i64 i) ∧ w'.cell? ⟨g16, 2, none⟩ = some (.int .i64 0) ∧ Below wc.heap.size wc w')
        (first | exact HSD.out | exact HSn.out _ (Below.refl _ _) | exact HSn.out _ (Below.refl _ _).drew | exact HSn.out _ (Below.trans (Below.refl _ _).drew hb) | (go_split_ands; exact HSn.out _ (Below.trans (by assumption) (Below.mono hb (Below.size (by assumption))))))
        (first
          | (go_at_call 10; (with_reducible refine (CO.out _).mono ?_); rintro e wx ⟨gd, cd, rfl, hvd, hb⟩; have HBx : Hid (Below wc.heap.size wc wx) := Lib.hid (by first | exact Below.trans (Below.refl _ _).drew hb | (go_split_ands; exact Below.trans (by assumption) (Below.mono hb (Below.size (by assumption))))); have HVd := Lib.hid hvd)
          | (go_at_call 12; (with_reducible refine (CS.out _ _ _ _ _ (HF7.out _ HBx.out) HVd.out).mono ?_); rintro e wx ⟨rfl, hb⟩)
          | (go_at_call 12; (with_reducible refine (CS.out _ _ _ _ _ (HF11.out _ HBx.out) HVd.out).mono ?_); rintro e wx ⟨rfl, hb⟩))
      all_goals go_wp2_with fail
      all_goals go_ret
      all_goals first | exact ⟨rfl, HB.out.trans (Below.mono (by assumption) HB.out.size)⟩ | (go_split_ands; exact ⟨rfl, HB.out.trans (Below.mono (by assumption) HB.out.size)⟩)
    · have hd : decide ((9 : Int) < (a : Int)) = true := decide_eq_true (by omega)
      clear ha9 hfin
      have hx7 := HX7.out.lt
      have hv7 := HV7.out.lt
      have x7_0 := HX7.out.cell 0
      have x7_1 := HX7.out.cell 1
      have x7_2 := HX7.out.cell 2
      simp only [List.getElem?_toArray, List.getElem?_cons_zero, List.getElem?_cons_succ] at x7_0 x7_1 x7_2
      have hx11 := HX11.out.lt
      have hv11 := HV11.out.lt
      have x11_0 := HX11.out.cell 0
      have x11_1 := HX11.out.cell 1
      have x11_2 := HX11.out.cell 2
      simp only [List.getElem?_toArray, List.getElem?_cons_zero, List.getElem?_cons_succ] at x11_0 x11_1 x11_2
      have HSn : Hid (∀ wa, Below wc.heap.size wc wa → wa.cell? ⟨b7, 0, none⟩ = some (.int .i64 1) ∧ wa.cell? ⟨b7, 1, none⟩ = some (.int .i64 1) ∧ wa.cell? ⟨b7, 2, none⟩ = some (.slice (some ⟨g7, 0, none⟩) 1 c7) ∧ wa.cell? ⟨b11, 0, none⟩ = some (.int .i64 1) ∧ wa.cell? ⟨b11, 1, none⟩ = some (.int .i64 1) ∧ wa.cell? ⟨b11, 2, none⟩ = some (.slice (some ⟨g11, 0, none⟩) 1 c11) ∧ Below wc.heap.size wc wa) := Lib.hid (fun wa h => ⟨(h.cell (p := ⟨b7, 0, none⟩) hx7).trans x7_0, (h.cell (p := ⟨b7, 1, none⟩) hx7).trans x7_1, (h.cell (p := ⟨b7, 2, none⟩) hx7).trans x7_2, (h.cell (p := ⟨b11, 0, none⟩) hx11).trans x11_0, (h.cell (p := ⟨b11, 1, none⟩) hx11).trans x11_1, (h.cell (p := ⟨b11, 2, none⟩) hx11).trans x11_2, h⟩)
      have HSD : Hid (wc.drew.cell? ⟨b7, 0, none⟩ = some (.int .i64 1) ∧ wc.drew.cell? ⟨b7, 1, none⟩ = some (.int .i64 1) ∧ wc.drew.cell? ⟨b7, 2, none⟩ = some (.slice (some ⟨g7, 0, none⟩) 1 c7) ∧ wc.drew.cell? ⟨b11, 0, none⟩ = some (.int .i64 1) ∧ wc.drew.cell? ⟨b11, 1, none⟩ = some (.int .i64 1) ∧ wc.drew.cell? ⟨b11, 2, none⟩ = some (.slice (some ⟨g11, 0, none⟩) 1 c11) ∧ Below wc.heap.size wc wc.drew) := Lib.hid ⟨x7_0, x7_1, x7_2, x11_0, x11_1, x11_2, (Below.refl _ _).drew⟩
      have HF7 := Lib.hid (fun wa (h : Below wc.heap.size wc wa) => HV7.out.next h)
      have HF11 := Lib.hid (fun wa (h : Below wc.heap.size wc wa) => HV11.out.next h)
      clear hv11 hv7 hx11 hx7 x11_0 x11_1 x11_2 x7_0 x7_1 x7_2
      have HBx : Hid (Below wc.heap.size wc wc.drew) := Lib.hid (Below.refl _ _).drew
      go_region_held3 (fun w' => w'.cell? ⟨b7, 0, none⟩ = some (.int .i64 1) ∧ w'.cell? ⟨b7, 1, none⟩ = some (.int .i64 1) ∧ w'.cell? ⟨b7, 2, none⟩ = some (.slice (some ⟨g7, 0, none⟩) 1 c7) ∧ w'.cell? ⟨b11, 0, none⟩ = some (.int .i64 1) ∧ w'.cell? ⟨b11, 1, none⟩ = some (.int .i64 1) ∧ w'.cell? ⟨b11, 2, none⟩ = some (.slice (some ⟨g11, 0, none⟩) 1 c11) ∧ Below wc.heap.size wc w')
        (first | exact HSD.out | exact HSn.out _ (Below.refl _ _) | exact HSn.out _ (Below.refl _ _).drew | exact HSn.out _ (Below.trans (Below.refl _ _).drew hb) | (go_split_ands; exact HSn.out _ (Below.trans (by assumption) (Below.mono hb (Below.size (by assumption))))))
        (first
          | (go_at_call 10; (with_reducible refine (CO.out _).mono ?_); rintro e wx ⟨gd, cd, rfl, hvd, hb⟩; have HBx : Hid (Below wc.heap.size wc wx) := Lib.hid (by first | exact Below.trans (Below.refl _ _).drew hb | (go_split_ands; exact Below.trans (by assumption) (Below.mono hb (Below.size (by assumption))))); have HVd := Lib.hid hvd)
          | (go_at_call 12; (with_reducible refine (CS.out _ _ _ _ _ (HF7.out _ HBx.out) HVd.out).mono ?_); rintro e wx ⟨rfl, hb⟩)
          | (go_at_call 12; (with_reducible refine (CS.out _ _ _ _ _ (HF11.out _ HBx.out) HVd.out).mono ?_); rintro e wx ⟨rfl, hb⟩))
      all_goals go_wp2_with fail
      all_goals go_ret
      all_goals first | exact ⟨rfl, HB.out.trans (Below.mono (by assumption) HB.out.size)⟩ | (go_split_ands; exact ⟨rfl, HB.out.trans (Below.mono (by assumption) HB.out.size)⟩)
/-- what MID tells is found there, or ahead of it -/
theorem find_part (t p : Bs) (a : Nat) (h1 : 1 ≤ a) (ha : a ≤ t.length + 1) (hp : ∃ r, t.drop (a - 1) = p ++ r) (h9 : a ≤ 9) : ∃ i : Nat, pFind p t = dV i ∧ 1 ≤ i ∧ i ≤ a := by
  have ho : Lib.occAt t p (a - 1) = true := occ_app.2 hp
  unfold pFind
  rcases Lib.index_spec t p with ⟨_, h⟩ | ⟨i, hi, _, _, hno⟩
  · have := h (a - 1) (by omega)
    rw [ho] at this
    cases this
  · have hia : i ≤ a - 1 := by
      rcases Nat.lt_or_ge (a - 1) i with h | h
      · have := hno (a - 1) h
        rw [ho] at this
        cases this
      · exact h
    rw [if_neg (by omega), hi, Int.toNat_natCast, count_digit (by omega)]
    exact ⟨1 + i, rfl, by omega, by omega⟩
def partB (t : Bs) (a k : Nat) : Bs := if t.length < a then [] else (t.drop (a - 1)).take (min k (t.length - (a - 1)))
theorem part_mid (t : Bs) (a k : Nat) (ht : t.length ≤ 9) (h1 : 1 ≤ a) : pMid t a k = tV (partB t a k) ∧ (partB t a k).length ≤ 255 ∧ (a ≤ t.length + 1 → ∃ r, t.drop (a - 1) = partB t a k ++ r) := by
  unfold pMid partB
  rw [if_neg (by omega)]
  by_cases h : t.length < a
  · rw [if_pos h, if_pos h]
    exact ⟨rfl, by simp, fun _ => ⟨t.drop (a - 1), rfl⟩⟩
  · rw [if_neg h, if_neg h]
    have hl : ((t.drop (a - 1)).take (min k (t.length - (a - 1)))).length ≤ 255 := by simp; omega
    exact ⟨vText_tV hl, hl, fun _ => ⟨_, (List.take_append_drop _ _).symm⟩⟩
set_option maxRecDepth 100000 in
set_option maxHeartbeats 3200000 in
theorem parts_long (t : Bs) (x y : Value) (w : World) (hP : PowTab w) (hM : MaxVar w) (ht : 9 < t.length) :
    Calls Tryz.prog 3 #[.string ⟨t.toArray⟩, x, y] w fun e w' => e = .returned (.bool true) ∧ Below w.heap.size w w' := by
  have CA := Lib.hid (awake12_any w hP hM)
  have ht' : (9 : Int) < (t.length : Int) := by omega
  clear hP hM ht
  go_enter Tryz.func3, Tryz.ntmps3
  go_wp2_with fail
  refine CA.out.mono ?_
  rintro x w0 ⟨rfl, hb⟩
  go_wp2_with fail
  go_ret
  exact ⟨rfl, hb⟩
theorem parts_any (t : Bs) (fr n : Nat) (w : World) (hP : PowTab w) (hM : MaxVar w) (hfr : fr ≤ 255) (hn : n ≤ 255) :
    Calls Tryz.prog 3 #[.string ⟨t.toArray⟩, .int .u8 (fr : Int), .int .u8 (n : Int)] w fun e w' => e = .returned (.bool true) ∧ Below w.heap.size w w' := by
  by_cases ht : 9 < t.length
  · exact parts_long t _ _ w hP hM ht
  · have ht' : t.length ≤ 9 := by omega
    obtain ⟨k, hk⟩ : ∃ k, n % (t.length + 1) = k := ⟨_, rfl⟩
    obtain ⟨a, ha⟩ : ∃ a, 1 + fr % (t.length + 1) = a := ⟨_, rfl⟩
    have hal : 1 ≤ a ∧ a ≤ t.length + 1 := by have := Nat.mod_lt fr (Nat.succ_pos t.length); rw [Nat.succ_eq_add_one] at this; omega
    by_cases h9 : a ≤ 9
    · have e10 : a % 10 = a := Nat.mod_eq_of_lt (by omega)
      obtain ⟨m1, m2, m3⟩ := part_mid t a k ht' hal.1
      have hm : tV (partB t a k) = pMid t (a % 10) k := by rw [e10, m1]
      obtain ⟨i, f1, f2, f3⟩ := find_part t (partB t a k) a hal.1 hal.2 (m3 hal.2) h9
      exact parts_walk t fr n k a _ (dV i) w hP hM ht' hk ha hfr hn hm (fun W b p m h => by
        have := call_find (partB t a k) t m2 (by omega) b 2 W p m h
        rw [f1] at this
        exact this) (fun _ => ⟨i, rfl, f2, f3⟩)
    · have e10 : a % 10 = 0 := by
        have : a = 10 := by omega
        rw [this]
      have hm : vBad 2 = pMid t (a % 10) k := by
        rw [e10]
        unfold pMid
        rw [if_pos (by decide)]
      exact parts_walk t fr n k a _ (vBad 2) w hP hM ht' hk ha hfr hn hm (fun W b p _ h => call_find_bad t (by omega) b 2 W p h) (fun h => absurd h h9)
end Go.Proofs.YtpdaloohgfnbhaaGreatDoor
