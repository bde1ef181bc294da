/-
  The walk of law12.FtextTrims.
-/
import Derived.Test.YtpdaloohgfnbhaaGreatDoorFt24
import Derived.Test.YtpdaloohgfnbhaaGreatDoorRefB4
namespace Go.Proofs.YtpdaloohgfnbhaaGreatDoor
open Go.RowKit

theorem low_up (c : UInt8) : chg 65 90 (· + 32) (chg 97 122 (· - 32) c) = chg 65 90 (· + 32) c := by
  have h : ∀ n : Fin 256, chg 65 90 (· + 32) (chg 97 122 (· - 32) (UInt8.ofNat n.val)) = chg 65 90 (· + 32) (UInt8.ofNat n.val) := by decide +kernel
  have e := h ⟨c.toNat, c.toNat_lt⟩
  simpa using e
theorem lower_upper (t : Bs) : (t.map (chg 97 122 (· - 32))).map (chg 65 90 (· + 32)) = t.map (chg 65 90 (· + 32)) := by
  rw [List.map_map]
  exact List.map_congr_left (fun c _ => low_up c)
theorem up_chg (c : UInt8) : up c = chg 97 122 (· - 32) c := by
  have h : ∀ n : Fin 256, up (UInt8.ofNat n.val) = chg 97 122 (· - 32) (UInt8.ofNat n.val) := by decide +kernel
  have e := h ⟨c.toNat, c.toNat_lt⟩
  simpa using e
theorem fold_up (t : Bs) : pFold t = t.map (chg 97 122 (· - 32)) := by
  exact List.map_congr_left (fun c _ => up_chg c)
set_option maxRecDepth 100000 in
set_option maxHeartbeats 6400000 in
theorem trims_walk (t s u v : Bs) (w : World) (hP : PowTab w) (hM : MaxVar w) (ht : t.length ≤ 100) (hsl : s.length ≤ 100) (hul : u.length ≤ 100)
    (hs1 : trimB t = s) (hs2 : trimB s = s) (hu1 : vText (t.map (chg 97 122 (· - 32))) = tV u) (hv1 : vText (u.map (chg 65 90 (· + 32))) = tV v) (hv2 : vText (t.map (chg 65 90 (· + 32))) = tV v) (htt : vText (Lib.repeatL t 2) = tV (t ++ t)) (hfo : pFold t = u) (hti : Tight s) :
    Calls Tryz.prog 5 #[.string ⟨t.toArray⟩] w fun e w' => e = .returned (.bool true) ∧ Below w.heap.size w w' := by
  have hti2 : (t.length : Int) ≤ 100 := by omega
  replace hs1 := Lib.hid hs1
  replace hs2 := Lib.hid hs2
  replace hu1 := Lib.hid hu1
  replace hv1 := Lib.hid hv1
  replace hv2 := Lib.hid hv2
  replace htt := Lib.hid htt
  replace hfo := Lib.hid hfo
  replace hti := Lib.hid hti
  have HP := Lib.hid (fun W (h : Below w.heap.size w W) => hP.next h)
  have HM := Lib.hid (fun W (h : Below w.heap.size w W) => hM.next h)
  have HB := Lib.hid (Below.refl w.heap.size w)
  clear hP hM
  go_enter Tryz.func5, Tryz.ntmps5
  go_wp2_with fail
  refine (awake12_any _ (HP.out _ (Below.refl _ _)) (HM.out _ (Below.refl _ _))).mono ?_
  rintro x w0 ⟨rfl, hb⟩
  replace HB := Lib.hid (HB.out.trans (hb.mono HB.out.size))
  clear hb
  go_upto_region 5 with fail
  go_wp2_with fail
  refine (one12_any t _).mono ?_
  rintro x w1 ⟨v, rfl, ⟨g1, c1, rfl, hv⟩, hb⟩
  replace HB := Lib.hid (HB.out.trans (hb.mono HB.out.size))
  have HV1 := Lib.hid hv
  clear hb hv
  dsimp only [arr1, List.length_cons, List.length_nil, Nat.zero_add, List.map_cons, List.map_nil]
  have hA := args_one (a := arr1 (tV t)) (c := c1) HV1.out 25
  have HA := Lib.hid hA
  have HBa := Lib.hid (HB.out.alloc HB.out.size (.cells #[.int .i64 (arr1 (tV t)).r, .int .i64 (arr1 (tV t)).c, .slice (some ⟨g1, 0, none⟩) (arr1 (tV t)).vs.length c1] 25))
  have hbA : Below w1.heap.size w1 (w1.alloc (.cells #[.int .i64 (arr1 (tV t)).r, .int .i64 (arr1 (tV t)).c, .slice (some ⟨g1, 0, none⟩) (arr1 (tV t)).vs.length c1] 25)) := (Below.refl _ _).alloc (Nat.le_refl _) _
  have CC := Lib.hid (call_trim t (by omega) _ 1 _ (HP.out _ HBa.out) (HM.out _ HBa.out) HA.out)
  rw [hs1.out, vText_tV (show s.length ≤ 255 by omega)] at CC
  clear hA HA HBa
  dsimp only [arr1, List.length_cons, List.length_nil, Nat.zero_add, List.map_cons, List.map_nil] at CC hbA ⊢
  have HbA := Lib.hid hbA
  clear hbA
  go_wp2_with fail
  refine CC.out.mono ?_
  rintro x w2 ⟨v, rfl, ⟨g2, c2, rfl, hv⟩, hb⟩
  have hb2 := HbA.out.trans (hb.mono HbA.out.size)
  replace HB := Lib.hid (HB.out.trans (hb2.mono HB.out.size))
  replace HV1 := Lib.hid (HV1.out.next hb2)
  have HV2 := Lib.hid hv
  clear hb hb2 hv CC HbA
  dsimp only [arr1, List.length_cons, List.length_nil, Nat.zero_add, List.map_cons, List.map_nil]
  go_upto_region 6 with fail
  have hb2 : Below w2.heap.size w2 (w2.alloc (.cells #[.int .i64 1, .int .i64 1, .slice (some ⟨g2, 0, none⟩) 1 c2] 25)) := (Below.refl _ _).alloc (Nat.le_refl _) _
  replace HB := Lib.hid (HB.out.trans (hb2.mono HB.out.size))
  replace HV1 := Lib.hid (HV1.out.next hb2)
  replace HV2 := Lib.hid (HV2.out.next hb2)
  have HX2 := Lib.hid (Lies.new w2 25 #[.int .i64 1, .int .i64 1, .slice (some ⟨g2, 0, none⟩) 1 c2])
  clear hb2
  generalize w2.alloc (.cells #[.int .i64 1, .int .i64 1, .slice (some ⟨g2, 0, none⟩) 1 c2] 25) = W2 at *
  generalize w2.heap.size = b2 at *
  have xa0 := HX2.out.cell 0
  have xa1 := HX2.out.cell 1
  have xa2 := HX2.out.cell 2
  simp only [List.getElem?_toArray, List.getElem?_cons_zero, List.getElem?_cons_succ] at xa0 xa1 xa2
  have hA := args_one (a := arr1 (tV s)) (c := c2) HV2.out 25
  have HA := Lib.hid hA
  have HBa := Lib.hid (HB.out.alloc HB.out.size (.cells #[.int .i64 (arr1 (tV s)).r, .int .i64 (arr1 (tV s)).c, .slice (some ⟨g2, 0, none⟩) (arr1 (tV s)).vs.length c2] 25))
  have hbA : Below W2.heap.size W2 (W2.alloc (.cells #[.int .i64 (arr1 (tV s)).r, .int .i64 (arr1 (tV s)).c, .slice (some ⟨g2, 0, none⟩) (arr1 (tV s)).vs.length c2] 25)) := (Below.refl _ _).alloc (Nat.le_refl _) _
  have CC := Lib.hid (call_trim s (by omega) _ 1 _ (HP.out _ HBa.out) (HM.out _ HBa.out) HA.out)
  rw [hs2.out, vText_tV (show s.length ≤ 255 by omega)] at CC
  clear hA HA HBa
  dsimp only [arr1, List.length_cons, List.length_nil, Nat.zero_add, List.map_cons, List.map_nil] at CC hbA ⊢
  have HbA := Lib.hid hbA
  clear hbA
  go_wp2_with fail
  clear xa0 xa1 xa2
  refine CC.out.mono ?_
  rintro x w3 ⟨v, rfl, ⟨g3, c3, rfl, hv⟩, hb⟩
  have hb2 := HbA.out.trans (hb.mono HbA.out.size)
  replace HB := Lib.hid (HB.out.trans (hb2.mono HB.out.size))
  replace HV1 := Lib.hid (HV1.out.next hb2)
  replace HV2 := Lib.hid (HV2.out.next hb2)
  replace HX2 := Lib.hid (HX2.out.next hb2)
  have HV3 := Lib.hid hv
  clear hb hb2 hv CC HbA
  dsimp only [arr1, List.length_cons, List.length_nil, Nat.zero_add, List.map_cons, List.map_nil]
  go_upto_region 7 with fail
  have hb2 : Below w3.heap.size w3 (w3.alloc (.cells #[.int .i64 1, .int .i64 1, .slice (some ⟨g3, 0, none⟩) 1 c3] 25)) := (Below.refl _ _).alloc (Nat.le_refl _) _
  replace HB := Lib.hid (HB.out.trans (hb2.mono HB.out.size))
  replace HV1 := Lib.hid (HV1.out.next hb2)
  replace HV2 := Lib.hid (HV2.out.next hb2)
  replace HX2 := Lib.hid (HX2.out.next hb2)
  replace HV3 := Lib.hid (HV3.out.next hb2)
  have HX3 := Lib.hid (Lies.new w3 25 #[.int .i64 1, .int .i64 1, .slice (some ⟨g3, 0, none⟩) 1 c3])
  clear hb2
  generalize w3.alloc (.cells #[.int .i64 1, .int .i64 1, .slice (some ⟨g3, 0, none⟩) 1 c3] 25) = W3 at *
  generalize w3.heap.size = b3 at *
  go_wp2_with fail
  refine (one12_any t _).mono ?_
  rintro x w4 ⟨v, rfl, ⟨g4, c4, rfl, hv⟩, hb⟩
  replace HB := Lib.hid (HB.out.trans (hb.mono HB.out.size))
  replace HV1 := Lib.hid (HV1.out.next hb)
  replace HV2 := Lib.hid (HV2.out.next hb)
  replace HX2 := Lib.hid (HX2.out.next hb)
  replace HV3 := Lib.hid (HV3.out.next hb)
  replace HX3 := Lib.hid (HX3.out.next hb)
  have HV4 := Lib.hid hv
  clear hb hv
  dsimp only [arr1, List.length_cons, List.length_nil, Nat.zero_add, List.map_cons, List.map_nil]
  have hA := args_one (a := arr1 (tV t)) (c := c4) HV4.out 25
  have HA := Lib.hid hA
  have HBa := Lib.hid (HB.out.alloc HB.out.size (.cells #[.int .i64 (arr1 (tV t)).r, .int .i64 (arr1 (tV t)).c, .slice (some ⟨g4, 0, none⟩) (arr1 (tV t)).vs.length c4] 25))
  have hbA : Below w4.heap.size w4 (w4.alloc (.cells #[.int .i64 (arr1 (tV t)).r, .int .i64 (arr1 (tV t)).c, .slice (some ⟨g4, 0, none⟩) (arr1 (tV t)).vs.length c4] 25)) := (Below.refl _ _).alloc (Nat.le_refl _) _
  have CC := Lib.hid (call_upper t (by omega) _ 1 _ (HP.out _ HBa.out) HA.out)
  rw [hu1.out] at CC
  clear hA HA HBa
  dsimp only [arr1, List.length_cons, List.length_nil, Nat.zero_add, List.map_cons, List.map_nil] at CC hbA ⊢
  have HbA := Lib.hid hbA
  clear hbA
  go_wp2_with fail
  refine CC.out.mono ?_
  rintro x w5 ⟨v, rfl, ⟨g5, c5, rfl, hv⟩, hb⟩
  have hb2 := HbA.out.trans (hb.mono HbA.out.size)
  replace HB := Lib.hid (HB.out.trans (hb2.mono HB.out.size))
  replace HV1 := Lib.hid (HV1.out.next hb2)
  replace HV2 := Lib.hid (HV2.out.next hb2)
  replace HX2 := Lib.hid (HX2.out.next hb2)
  replace HV3 := Lib.hid (HV3.out.next hb2)
  replace HX3 := Lib.hid (HX3.out.next hb2)
  replace HV4 := Lib.hid (HV4.out.next hb2)
  have HV5 := Lib.hid hv
  clear hb hb2 hv CC HbA
  dsimp only [arr1, List.length_cons, List.length_nil, Nat.zero_add, List.map_cons, List.map_nil]
  go_upto_region 8 with fail
  have hb2 : Below w5.heap.size w5 (w5.alloc (.cells #[.int .i64 1, .int .i64 1, .slice (some ⟨g5, 0, none⟩) 1 c5] 25)) := (Below.refl _ _).alloc (Nat.le_refl _) _
  replace HB := Lib.hid (HB.out.trans (hb2.mono HB.out.size))
  replace HV1 := Lib.hid (HV1.out.next hb2)
  replace HV2 := Lib.hid (HV2.out.next hb2)
  replace HX2 := Lib.hid (HX2.out.next hb2)
  replace HV3 := Lib.hid (HV3.out.next hb2)
  replace HX3 := Lib.hid (HX3.out.next hb2)
  replace HV4 := Lib.hid (HV4.out.next hb2)
  replace HV5 := Lib.hid (HV5.out.next hb2)
  have HX5 := Lib.hid (Lies.new w5 25 #[.int .i64 1, .int .i64 1, .slice (some ⟨g5, 0, none⟩) 1 c5])
  clear hb2
  generalize w5.alloc (.cells #[.int .i64 1, .int .i64 1, .slice (some ⟨g5, 0, none⟩) 1 c5] 25) = W5 at *
  generalize w5.heap.size = b5 at *
  have xc0 := HX5.out.cell 0
  have xc1 := HX5.out.cell 1
  have xc2 := HX5.out.cell 2
  simp only [List.getElem?_toArray, List.getElem?_cons_zero, List.getElem?_cons_succ] at xc0 xc1 xc2
  have hA := args_one (a := arr1 (tV u)) (c := c5) HV5.out 25
  have HA := Lib.hid hA
  have HBa := Lib.hid (HB.out.alloc HB.out.size (.cells #[.int .i64 (arr1 (tV u)).r, .int .i64 (arr1 (tV u)).c, .slice (some ⟨g5, 0, none⟩) (arr1 (tV u)).vs.length c5] 25))
  have hbA : Below W5.heap.size W5 (W5.alloc (.cells #[.int .i64 (arr1 (tV u)).r, .int .i64 (arr1 (tV u)).c, .slice (some ⟨g5, 0, none⟩) (arr1 (tV u)).vs.length c5] 25)) := (Below.refl _ _).alloc (Nat.le_refl _) _
  have CC := Lib.hid (call_lower u (by omega) _ 1 _ (HP.out _ HBa.out) HA.out)
  rw [hv1.out] at CC
  clear hA HA HBa
  dsimp only [arr1, List.length_cons, List.length_nil, Nat.zero_add, List.map_cons, List.map_nil] at CC hbA ⊢
  have HbA := Lib.hid hbA
  clear hbA
  go_wp2_with fail
  clear xc0 xc1 xc2
  refine CC.out.mono ?_
  rintro x w6 ⟨v, rfl, ⟨g6, c6, rfl, hv⟩, hb⟩
  have hb2 := HbA.out.trans (hb.mono HbA.out.size)
  replace HB := Lib.hid (HB.out.trans (hb2.mono HB.out.size))
  replace HV1 := Lib.hid (HV1.out.next hb2)
  replace HV2 := Lib.hid (HV2.out.next hb2)
  replace HX2 := Lib.hid (HX2.out.next hb2)
  replace HV3 := Lib.hid (HV3.out.next hb2)
  replace HX3 := Lib.hid (HX3.out.next hb2)
  replace HV4 := Lib.hid (HV4.out.next hb2)
  replace HV5 := Lib.hid (HV5.out.next hb2)
  replace HX5 := Lib.hid (HX5.out.next hb2)
  have HV6 := Lib.hid hv
  clear hb hb2 hv CC HbA
  dsimp only [arr1, List.length_cons, List.length_nil, Nat.zero_add, List.map_cons, List.map_nil]
  go_upto_region 9 with fail
  have hb2 : Below w6.heap.size w6 (w6.alloc (.cells #[.int .i64 1, .int .i64 1, .slice (some ⟨g6, 0, none⟩) 1 c6] 25)) := (Below.refl _ _).alloc (Nat.le_refl _) _
  replace HB := Lib.hid (HB.out.trans (hb2.mono HB.out.size))
  replace HV1 := Lib.hid (HV1.out.next hb2)
  replace HV2 := Lib.hid (HV2.out.next hb2)
  replace HX2 := Lib.hid (HX2.out.next hb2)
  replace HV3 := Lib.hid (HV3.out.next hb2)
  replace HX3 := Lib.hid (HX3.out.next hb2)
  replace HV4 := Lib.hid (HV4.out.next hb2)
  replace HV5 := Lib.hid (HV5.out.next hb2)
  replace HX5 := Lib.hid (HX5.out.next hb2)
  replace HV6 := Lib.hid (HV6.out.next hb2)
  have HX6 := Lib.hid (Lies.new w6 25 #[.int .i64 1, .int .i64 1, .slice (some ⟨g6, 0, none⟩) 1 c6])
  clear hb2
  generalize w6.alloc (.cells #[.int .i64 1, .int .i64 1, .slice (some ⟨g6, 0, none⟩) 1 c6] 25) = W6 at *
  generalize w6.heap.size = b6 at *
  go_wp2_with fail
  refine (one12_any t _).mono ?_
  rintro x w7 ⟨v, rfl, ⟨g7, c7, rfl, hv⟩, hb⟩
  replace HB := Lib.hid (HB.out.trans (hb.mono HB.out.size))
  replace HV1 := Lib.hid (HV1.out.next hb)
  replace HV2 := Lib.hid (HV2.out.next hb)
  replace HX2 := Lib.hid (HX2.out.next hb)
  replace HV3 := Lib.hid (HV3.out.next hb)
  replace HX3 := Lib.hid (HX3.out.next hb)
  replace HV4 := Lib.hid (HV4.out.next hb)
  replace HV5 := Lib.hid (HV5.out.next hb)
  replace HX5 := Lib.hid (HX5.out.next hb)
  replace HV6 := Lib.hid (HV6.out.next hb)
  replace HX6 := Lib.hid (HX6.out.next hb)
  have HV7 := Lib.hid hv
  clear hb hv
  dsimp only [arr1, List.length_cons, List.length_nil, Nat.zero_add, List.map_cons, List.map_nil]
  have hA := args_one (a := arr1 (tV t)) (c := c7) HV7.out 25
  have HA := Lib.hid hA
  have HBa := Lib.hid (HB.out.alloc HB.out.size (.cells #[.int .i64 (arr1 (tV t)).r, .int .i64 (arr1 (tV t)).c, .slice (some ⟨g7, 0, none⟩) (arr1 (tV t)).vs.length c7] 25))
  have hbA : Below w7.heap.size w7 (w7.alloc (.cells #[.int .i64 (arr1 (tV t)).r, .int .i64 (arr1 (tV t)).c, .slice (some ⟨g7, 0, none⟩) (arr1 (tV t)).vs.length c7] 25)) := (Below.refl _ _).alloc (Nat.le_refl _) _
  have CC := Lib.hid (call_lower t (by omega) _ 1 _ (HP.out _ HBa.out) HA.out)
  rw [hv2.out] at CC
  clear hA HA HBa
  dsimp only [arr1, List.length_cons, List.length_nil, Nat.zero_add, List.map_cons, List.map_nil] at CC hbA ⊢
  have HbA := Lib.hid hbA
  clear hbA
  go_wp2_with fail
  refine CC.out.mono ?_
  rintro x w8 ⟨v, rfl, ⟨g8, c8, rfl, hv⟩, hb⟩
  have hb2 := HbA.out.trans (hb.mono HbA.out.size)
  replace HB := Lib.hid (HB.out.trans (hb2.mono HB.out.size))
  replace HV1 := Lib.hid (HV1.out.next hb2)
  replace HV2 := Lib.hid (HV2.out.next hb2)
  replace HX2 := Lib.hid (HX2.out.next hb2)
  replace HV3 := Lib.hid (HV3.out.next hb2)
  replace HX3 := Lib.hid (HX3.out.next hb2)
  replace HV4 := Lib.hid (HV4.out.next hb2)
  replace HV5 := Lib.hid (HV5.out.next hb2)
  replace HX5 := Lib.hid (HX5.out.next hb2)
  replace HV6 := Lib.hid (HV6.out.next hb2)
  replace HX6 := Lib.hid (HX6.out.next hb2)
  replace HV7 := Lib.hid (HV7.out.next hb2)
  have HV8 := Lib.hid hv
  clear hb hb2 hv CC HbA
  dsimp only [arr1, List.length_cons, List.length_nil, Nat.zero_add, List.map_cons, List.map_nil]
  go_upto_region 10 with fail
  have hb2 : Below w8.heap.size w8 (w8.alloc (.cells #[.int .i64 1, .int .i64 1, .slice (some ⟨g8, 0, none⟩) 1 c8] 25)) := (Below.refl _ _).alloc (Nat.le_refl _) _
  replace HB := Lib.hid (HB.out.trans (hb2.mono HB.out.size))
  replace HV1 := Lib.hid (HV1.out.next hb2)
  replace HV2 := Lib.hid (HV2.out.next hb2)
  replace HX2 := Lib.hid (HX2.out.next hb2)
  replace HV3 := Lib.hid (HV3.out.next hb2)
  replace HX3 := Lib.hid (HX3.out.next hb2)
  replace HV4 := Lib.hid (HV4.out.next hb2)
  replace HV5 := Lib.hid (HV5.out.next hb2)
  replace HX5 := Lib.hid (HX5.out.next hb2)
  replace HV6 := Lib.hid (HV6.out.next hb2)
  replace HX6 := Lib.hid (HX6.out.next hb2)
  replace HV7 := Lib.hid (HV7.out.next hb2)
  replace HV8 := Lib.hid (HV8.out.next hb2)
  have HX8 := Lib.hid (Lies.new w8 25 #[.int .i64 1, .int .i64 1, .slice (some ⟨g8, 0, none⟩) 1 c8])
  clear hb2
  generalize w8.alloc (.cells #[.int .i64 1, .int .i64 1, .slice (some ⟨g8, 0, none⟩) 1 c8] 25) = W8 at *
  generalize w8.heap.size = b8 at *
  go_wp2_with fail
  refine (one12_any t _).mono ?_
  rintro x w9 ⟨v, rfl, ⟨g9, c9, rfl, hv⟩, hb⟩
  replace HB := Lib.hid (HB.out.trans (hb.mono HB.out.size))
  replace HV1 := Lib.hid (HV1.out.next hb)
  replace HV2 := Lib.hid (HV2.out.next hb)
  replace HX2 := Lib.hid (HX2.out.next hb)
  replace HV3 := Lib.hid (HV3.out.next hb)
  replace HX3 := Lib.hid (HX3.out.next hb)
  replace HV4 := Lib.hid (HV4.out.next hb)
  replace HV5 := Lib.hid (HV5.out.next hb)
  replace HX5 := Lib.hid (HX5.out.next hb)
  replace HV6 := Lib.hid (HV6.out.next hb)
  replace HX6 := Lib.hid (HX6.out.next hb)
  replace HV7 := Lib.hid (HV7.out.next hb)
  replace HV8 := Lib.hid (HV8.out.next hb)
  replace HX8 := Lib.hid (HX8.out.next hb)
  have HV9 := Lib.hid hv
  clear hb hv
  dsimp only [arr1, List.length_cons, List.length_nil, Nat.zero_add, List.map_cons, List.map_nil]
  go_wp2_with fail
  refine (digit12_any 2 _).mono ?_
  rintro x w10 ⟨v, rfl, ⟨g10, c10, rfl, hv⟩, hb⟩
  replace HB := Lib.hid (HB.out.trans (hb.mono HB.out.size))
  replace HV1 := Lib.hid (HV1.out.next hb)
  replace HV2 := Lib.hid (HV2.out.next hb)
  replace HX2 := Lib.hid (HX2.out.next hb)
  replace HV3 := Lib.hid (HV3.out.next hb)
  replace HX3 := Lib.hid (HX3.out.next hb)
  replace HV4 := Lib.hid (HV4.out.next hb)
  replace HV5 := Lib.hid (HV5.out.next hb)
  replace HX5 := Lib.hid (HX5.out.next hb)
  replace HV6 := Lib.hid (HV6.out.next hb)
  replace HX6 := Lib.hid (HX6.out.next hb)
  replace HV7 := Lib.hid (HV7.out.next hb)
  replace HV8 := Lib.hid (HV8.out.next hb)
  replace HX8 := Lib.hid (HX8.out.next hb)
  replace HV9 := Lib.hid (HV9.out.next hb)
  have HV10 := Lib.hid hv
  clear hb hv
  dsimp only [arr1, List.length_cons, List.length_nil, Nat.zero_add, List.map_cons, List.map_nil]
  have hA := args_two (a := arr1 (tV t)) (b := arr1 (dV 2)) (c1 := c9) (c2 := c10) HV9.out HV10.out 25
  have HA := Lib.hid hA
  have HBa := Lib.hid (HB.out.alloc HB.out.size (.cells #[.int .i64 (arr1 (tV t)).r, .int .i64 (arr1 (tV t)).c, .slice (some ⟨g9, 0, none⟩) (arr1 (tV t)).vs.length c9, .int .i64 (arr1 (dV 2)).r, .int .i64 (arr1 (dV 2)).c, .slice (some ⟨g10, 0, none⟩) (arr1 (dV 2)).vs.length c10] 25))
  have hbA : Below w10.heap.size w10 (w10.alloc (.cells #[.int .i64 (arr1 (tV t)).r, .int .i64 (arr1 (tV t)).c, .slice (some ⟨g9, 0, none⟩) (arr1 (tV t)).vs.length c9, .int .i64 (arr1 (dV 2)).r, .int .i64 (arr1 (dV 2)).c, .slice (some ⟨g10, 0, none⟩) (arr1 (dV 2)).vs.length c10] 25)) := (Below.refl _ _).alloc (Nat.le_refl _) _
  have CC := Lib.hid (call_rept t 2 (by omega) (by omega) (by omega) _ 2 _ (HP.out _ HBa.out) HA.out)
  rw [htt.out] at CC
  clear hA HA HBa
  dsimp only [arr1, List.length_cons, List.length_nil, Nat.zero_add, List.map_cons, List.map_nil] at CC hbA ⊢
  have HbA := Lib.hid hbA
  clear hbA
  go_wp2_with fail
  refine CC.out.mono ?_
  rintro x w11 ⟨v, rfl, ⟨g11, c11, rfl, hv⟩, hb⟩
  have hb2 := HbA.out.trans (hb.mono HbA.out.size)
  replace HB := Lib.hid (HB.out.trans (hb2.mono HB.out.size))
  replace HV1 := Lib.hid (HV1.out.next hb2)
  replace HV2 := Lib.hid (HV2.out.next hb2)
  replace HX2 := Lib.hid (HX2.out.next hb2)
  replace HV3 := Lib.hid (HV3.out.next hb2)
  replace HX3 := Lib.hid (HX3.out.next hb2)
  replace HV4 := Lib.hid (HV4.out.next hb2)
  replace HV5 := Lib.hid (HV5.out.next hb2)
  replace HX5 := Lib.hid (HX5.out.next hb2)
  replace HV6 := Lib.hid (HV6.out.next hb2)
  replace HX6 := Lib.hid (HX6.out.next hb2)
  replace HV7 := Lib.hid (HV7.out.next hb2)
  replace HV8 := Lib.hid (HV8.out.next hb2)
  replace HX8 := Lib.hid (HX8.out.next hb2)
  replace HV9 := Lib.hid (HV9.out.next hb2)
  replace HV10 := Lib.hid (HV10.out.next hb2)
  have HV11 := Lib.hid hv
  clear hb hb2 hv CC HbA
  dsimp only [arr1, List.length_cons, List.length_nil, Nat.zero_add, List.map_cons, List.map_nil]
  go_upto_region 11 with fail
  have hb2 : Below w11.heap.size w11 (w11.alloc (.cells #[.int .i64 1, .int .i64 1, .slice (some ⟨g11, 0, none⟩) 1 c11] 25)) := (Below.refl _ _).alloc (Nat.le_refl _) _
  replace HB := Lib.hid (HB.out.trans (hb2.mono HB.out.size))
  replace HV1 := Lib.hid (HV1.out.next hb2)
  replace HV2 := Lib.hid (HV2.out.next hb2)
  replace HX2 := Lib.hid (HX2.out.next hb2)
  replace HV3 := Lib.hid (HV3.out.next hb2)
  replace HX3 := Lib.hid (HX3.out.next hb2)
  replace HV4 := Lib.hid (HV4.out.next hb2)
  replace HV5 := Lib.hid (HV5.out.next hb2)
  replace HX5 := Lib.hid (HX5.out.next hb2)
  replace HV6 := Lib.hid (HV6.out.next hb2)
  replace HX6 := Lib.hid (HX6.out.next hb2)
  replace HV7 := Lib.hid (HV7.out.next hb2)
  replace HV8 := Lib.hid (HV8.out.next hb2)
  replace HX8 := Lib.hid (HX8.out.next hb2)
  replace HV9 := Lib.hid (HV9.out.next hb2)
  replace HV10 := Lib.hid (HV10.out.next hb2)
  replace HV11 := Lib.hid (HV11.out.next hb2)
  have HX11 := Lib.hid (Lies.new w11 25 #[.int .i64 1, .int .i64 1, .slice (some ⟨g11, 0, none⟩) 1 c11])
  clear hb2
  generalize w11.alloc (.cells #[.int .i64 1, .int .i64 1, .slice (some ⟨g11, 0, none⟩) 1 c11] 25) = W11 at *
  generalize w11.heap.size = b11 at *
  clear HV1 HV4 HV7 HV9 HV10
  have CO1 := Lib.hid (fun W => one12_s u W)
  have CO2 := Lib.hid (fun W => one12_s (t ++ t) W)
  have CF := Lib.hid (fun W => rfold_any t W (by omega))
  rw [hfo.out] at CF
  have CSS := Lib.hid (fun W g1 c1 g2 c2 h1 h2 => rsame09_s (tV s) g1 c1 g2 c2 W h1 h2)
  have CSU := Lib.hid (fun W g1 c1 g2 c2 h1 h2 => rsame09_s (tV u) g1 c1 g2 c2 W h1 h2)
  have CSV := Lib.hid (fun W g1 c1 g2 c2 h1 h2 => rsame09_s (tV v) g1 c1 g2 c2 W h1 h2)
  have CST := Lib.hid (fun W g1 c1 g2 c2 h1 h2 => rsame09_s (tV (t ++ t)) g1 c1 g2 c2 W h1 h2)
  have y3 : W11.cell? ⟨g2, 3, none⟩ = some (.string ⟨s.toArray⟩) := HV2.out.cell 0 (by simp) 3 (by decide)
  have htl : ¬ 9223372036854775807 < t.length + t.length := by omega
  have hx2 := HX2.out.lt
  have hv2 := HV2.out.lt
  have x2_0 := HX2.out.cell 0
  have x2_1 := HX2.out.cell 1
  have x2_2 := HX2.out.cell 2
  simp only [List.getElem?_toArray, List.getElem?_cons_zero, List.getElem?_cons_succ] at x2_0 x2_1 x2_2
  have hx3 := HX3.out.lt
  have hv3 := HV3.out.lt
  have x3_0 := HX3.out.cell 0
  have x3_1 := HX3.out.cell 1
  have x3_2 := HX3.out.cell 2
  simp only [List.getElem?_toArray, List.getElem?_cons_zero, List.getElem?_cons_succ] at x3_0 x3_1 x3_2
  have hx5 := HX5.out.lt
  have hv5 := HV5.out.lt
  have x5_0 := HX5.out.cell 0
  have x5_1 := HX5.out.cell 1
  have x5_2 := HX5.out.cell 2
  simp only [List.getElem?_toArray, List.getElem?_cons_zero, List.getElem?_cons_succ] at x5_0 x5_1 x5_2
  have hx6 := HX6.out.lt
  have hv6 := HV6.out.lt
  have x6_0 := HX6.out.cell 0
  have x6_1 := HX6.out.cell 1
  have x6_2 := HX6.out.cell 2
  simp only [List.getElem?_toArray, List.getElem?_cons_zero, List.getElem?_cons_succ] at x6_0 x6_1 x6_2
  have hx8 := HX8.out.lt
  have hv8 := HV8.out.lt
  have x8_0 := HX8.out.cell 0
  have x8_1 := HX8.out.cell 1
  have x8_2 := HX8.out.cell 2
  simp only [List.getElem?_toArray, List.getElem?_cons_zero, List.getElem?_cons_succ] at x8_0 x8_1 x8_2
  have hx11 := HX11.out.lt
  have hv11 := HV11.out.lt
  have x11_0 := HX11.out.cell 0
  have x11_1 := HX11.out.cell 1
  have x11_2 := HX11.out.cell 2
  simp only [List.getElem?_toArray, List.getElem?_cons_zero, List.getElem?_cons_succ] at x11_0 x11_1 x11_2
  have HSn : Hid (∀ wa, Below W11.heap.size W11 wa → wa.cell? ⟨b2, 0, none⟩ = some (.int .i64 1) ∧ wa.cell? ⟨b2, 1, none⟩ = some (.int .i64 1) ∧ wa.cell? ⟨b2, 2, none⟩ = some (.slice (some ⟨g2, 0, none⟩) 1 c2) ∧ wa.cell? ⟨b3, 0, none⟩ = some (.int .i64 1) ∧ wa.cell? ⟨b3, 1, none⟩ = some (.int .i64 1) ∧ wa.cell? ⟨b3, 2, none⟩ = some (.slice (some ⟨g3, 0, none⟩) 1 c3) ∧ wa.cell? ⟨b5, 0, none⟩ = some (.int .i64 1) ∧ wa.cell? ⟨b5, 1, none⟩ = some (.int .i64 1) ∧ wa.cell? ⟨b5, 2, none⟩ = some (.slice (some ⟨g5, 0, none⟩) 1 c5) ∧ wa.cell? ⟨b6, 0, none⟩ = some (.int .i64 1) ∧ wa.cell? ⟨b6, 1, none⟩ = some (.int .i64 1) ∧ wa.cell? ⟨b6, 2, none⟩ = some (.slice (some ⟨g6, 0, none⟩) 1 c6) ∧ wa.cell? ⟨b8, 0, none⟩ = some (.int .i64 1) ∧ wa.cell? ⟨b8, 1, none⟩ = some (.int .i64 1) ∧ wa.cell? ⟨b8, 2, none⟩ = some (.slice (some ⟨g8, 0, none⟩) 1 c8) ∧ wa.cell? ⟨b11, 0, none⟩ = some (.int .i64 1) ∧ wa.cell? ⟨b11, 1, none⟩ = some (.int .i64 1) ∧ wa.cell? ⟨b11, 2, none⟩ = some (.slice (some ⟨g11, 0, none⟩) 1 c11) ∧ wa.cell? ⟨g2, 3, none⟩ = some (.string ⟨s.toArray⟩) ∧ Below W11.heap.size W11 wa) := Lib.hid (fun wa h => ⟨(h.cell (p := ⟨b2, 0, none⟩) hx2).trans x2_0, (h.cell (p := ⟨b2, 1, none⟩) hx2).trans x2_1, (h.cell (p := ⟨b2, 2, none⟩) hx2).trans x2_2, (h.cell (p := ⟨b3, 0, none⟩) hx3).trans x3_0, (h.cell (p := ⟨b3, 1, none⟩) hx3).trans x3_1, (h.cell (p := ⟨b3, 2, none⟩) hx3).trans x3_2, (h.cell (p := ⟨b5, 0, none⟩) hx5).trans x5_0, (h.cell (p := ⟨b5, 1, none⟩) hx5).trans x5_1, (h.cell (p := ⟨b5, 2, none⟩) hx5).trans x5_2, (h.cell (p := ⟨b6, 0, none⟩) hx6).trans x6_0, (h.cell (p := ⟨b6, 1, none⟩) hx6).trans x6_1, (h.cell (p := ⟨b6, 2, none⟩) hx6).trans x6_2, (h.cell (p := ⟨b8, 0, none⟩) hx8).trans x8_0, (h.cell (p := ⟨b8, 1, none⟩) hx8).trans x8_1, (h.cell (p := ⟨b8, 2, none⟩) hx8).trans x8_2, (h.cell (p := ⟨b11, 0, none⟩) hx11).trans x11_0, (h.cell (p := ⟨b11, 1, none⟩) hx11).trans x11_1, (h.cell (p := ⟨b11, 2, none⟩) hx11).trans x11_2, (h.cell (p := ⟨g2, 3, none⟩) hv2).trans y3, h⟩)
  have HSD : Hid (W11.drew.cell? ⟨b2, 0, none⟩ = some (.int .i64 1) ∧ W11.drew.cell? ⟨b2, 1, none⟩ = some (.int .i64 1) ∧ W11.drew.cell? ⟨b2, 2, none⟩ = some (.slice (some ⟨g2, 0, none⟩) 1 c2) ∧ W11.drew.cell? ⟨b3, 0, none⟩ = some (.int .i64 1) ∧ W11.drew.cell? ⟨b3, 1, none⟩ = some (.int .i64 1) ∧ W11.drew.cell? ⟨b3, 2, none⟩ = some (.slice (some ⟨g3, 0, none⟩) 1 c3) ∧ W11.drew.cell? ⟨b5, 0, none⟩ = some (.int .i64 1) ∧ W11.drew.cell? ⟨b5, 1, none⟩ = some (.int .i64 1) ∧ W11.drew.cell? ⟨b5, 2, none⟩ = some (.slice (some ⟨g5, 0, none⟩) 1 c5) ∧ W11.drew.cell? ⟨b6, 0, none⟩ = some (.int .i64 1) ∧ W11.drew.cell? ⟨b6, 1, none⟩ = some (.int .i64 1) ∧ W11.drew.cell? ⟨b6, 2, none⟩ = some (.slice (some ⟨g6, 0, none⟩) 1 c6) ∧ W11.drew.cell? ⟨b8, 0, none⟩ = some (.int .i64 1) ∧ W11.drew.cell? ⟨b8, 1, none⟩ = some (.int .i64 1) ∧ W11.drew.cell? ⟨b8, 2, none⟩ = some (.slice (some ⟨g8, 0, none⟩) 1 c8) ∧ W11.drew.cell? ⟨b11, 0, none⟩ = some (.int .i64 1) ∧ W11.drew.cell? ⟨b11, 1, none⟩ = some (.int .i64 1) ∧ W11.drew.cell? ⟨b11, 2, none⟩ = some (.slice (some ⟨g11, 0, none⟩) 1 c11) ∧ W11.drew.cell? ⟨g2, 3, none⟩ = some (.string ⟨s.toArray⟩) ∧ Below W11.heap.size W11 W11.drew) := Lib.hid ⟨x2_0, x2_1, x2_2, x3_0, x3_1, x3_2, x5_0, x5_1, x5_2, x6_0, x6_1, x6_2, x8_0, x8_1, x8_2, x11_0, x11_1, x11_2, y3, (Below.refl _ _).drew⟩
  have HF2 := Lib.hid (fun wa (h : Below W11.heap.size W11 wa) => HV2.out.next h)
  have HF3 := Lib.hid (fun wa (h : Below W11.heap.size W11 wa) => HV3.out.next h)
  have HF5 := Lib.hid (fun wa (h : Below W11.heap.size W11 wa) => HV5.out.next h)
  have HF6 := Lib.hid (fun wa (h : Below W11.heap.size W11 wa) => HV6.out.next h)
  have HF8 := Lib.hid (fun wa (h : Below W11.heap.size W11 wa) => HV8.out.next h)
  have HF11 := Lib.hid (fun wa (h : Below W11.heap.size W11 wa) => HV11.out.next h)
  clear hv11 hv2 hv3 hv5 hv6 hv8 hx11 hx2 hx3 hx5 hx6 hx8 x11_0 x11_1 x11_2 x2_0 x2_1 x2_2 x3_0 x3_1 x3_2 x5_0 x5_1 x5_2 x6_0 x6_1 x6_2 x8_0 x8_1 x8_2 y3
  have HBx : Hid (Below W11.heap.size W11 W11.drew) := Lib.hid (Below.refl _ _).drew
  go_region_held3 (fun w' => w'.cell? ⟨b2, 0, none⟩ = some (.int .i64 1) ∧ w'.cell? ⟨b2, 1, none⟩ = some (.int .i64 1) ∧ w'.cell? ⟨b2, 2, none⟩ = some (.slice (some ⟨g2, 0, none⟩) 1 c2) ∧ w'.cell? ⟨b3, 0, none⟩ = some (.int .i64 1) ∧ w'.cell? ⟨b3, 1, none⟩ = some (.int .i64 1) ∧ w'.cell? ⟨b3, 2, none⟩ = some (.slice (some ⟨g3, 0, none⟩) 1 c3) ∧ w'.cell? ⟨b5, 0, none⟩ = some (.int .i64 1) ∧ w'.cell? ⟨b5, 1, none⟩ = some (.int .i64 1) ∧ w'.cell? ⟨b5, 2, none⟩ = some (.slice (some ⟨g5, 0, none⟩) 1 c5) ∧ w'.cell? ⟨b6, 0, none⟩ = some (.int .i64 1) ∧ w'.cell? ⟨b6, 1, none⟩ = some (.int .i64 1) ∧ w'.cell? ⟨b6, 2, none⟩ = some (.slice (some ⟨g6, 0, none⟩) 1 c6) ∧ w'.cell? ⟨b8, 0, none⟩ = some (.int .i64 1) ∧ w'.cell? ⟨b8, 1, none⟩ = some (.int .i64 1) ∧ w'.cell? ⟨b8, 2, none⟩ = some (.slice (some ⟨g8, 0, none⟩) 1 c8) ∧ w'.cell? ⟨b11, 0, none⟩ = some (.int .i64 1) ∧ w'.cell? ⟨b11, 1, none⟩ = some (.int .i64 1) ∧ w'.cell? ⟨b11, 2, none⟩ = some (.slice (some ⟨g11, 0, none⟩) 1 c11) ∧ w'.cell? ⟨g2, 3, none⟩ = some (.string ⟨s.toArray⟩) ∧ Below W11.heap.size W11 w')
    (first | exact HSD.out | exact HSn.out _ (Below.refl _ _) | exact HSn.out _ (Below.refl _ _).drew | exact HSn.out _ (Below.trans (Below.refl _ _).drew hb) | (go_split_ands; exact HSn.out _ (Below.trans (by assumption) (Below.mono hb (Below.size (by assumption))))))
    (first
      | (go_at_call 12; (with_reducible refine (CSS.out _ _ _ _ _ (HF2.out _ HBx.out) (HF3.out _ HBx.out)).mono ?_); rintro e wx ⟨rfl, hb⟩; have HBx : Hid (Below W11.heap.size W11 wx) := Lib.hid (by first | exact Below.trans (Below.refl _ _).drew hb | (go_split_ands; exact Below.trans (by assumption) (Below.mono hb (Below.size (by assumption))))))
      | (go_at_call 15; (with_reducible refine (CF.out _).mono ?_); rintro e wx ⟨rfl, hb⟩; have HBx : Hid (Below W11.heap.size W11 wx) := Lib.hid (by first | exact Below.trans (Below.refl _ _).drew hb | (go_split_ands; exact Below.trans (by assumption) (Below.mono hb (Below.size (by assumption))))))
      | (go_at_call 10; (with_reducible refine (CO1.out _).mono ?_); rintro e wx ⟨gd, cd, rfl, hvd, hb⟩; have HBx : Hid (Below W11.heap.size W11 wx) := Lib.hid (by first | exact Below.trans (Below.refl _ _).drew hb | (go_split_ands; exact Below.trans (by assumption) (Below.mono hb (Below.size (by assumption))))); have HVd := Lib.hid hvd)
      | (go_at_call 12; (with_reducible refine (CSU.out _ _ _ _ _ (HF5.out _ HBx.out) HVd.out).mono ?_); rintro e wx ⟨rfl, hb⟩; have HBx : Hid (Below W11.heap.size W11 wx) := Lib.hid (by first | exact Below.trans (Below.refl _ _).drew hb | (go_split_ands; exact Below.trans (by assumption) (Below.mono hb (Below.size (by assumption))))))
      | (go_at_call 12; (with_reducible refine (CSV.out _ _ _ _ _ (HF6.out _ HBx.out) (HF8.out _ HBx.out)).mono ?_); rintro e wx ⟨rfl, hb⟩; have HBx : Hid (Below W11.heap.size W11 wx) := Lib.hid (by first | exact Below.trans (Below.refl _ _).drew hb | (go_split_ands; exact Below.trans (by assumption) (Below.mono hb (Below.size (by assumption))))))
      | (go_at_call 10; (with_reducible refine (CO2.out _).mono ?_); rintro e wx ⟨gd, cd, rfl, hvd, hb⟩; have HBx : Hid (Below W11.heap.size W11 wx) := Lib.hid (by first | exact Below.trans (Below.refl _ _).drew hb | (go_split_ands; exact Below.trans (by assumption) (Below.mono hb (Below.size (by assumption))))); have HVd := Lib.hid hvd)
      | (go_at_call 12; (with_reducible refine (CST.out _ _ _ _ _ (HF11.out _ HBx.out) HVd.out).mono ?_); rintro e wx ⟨rfl, hb⟩; have HBx : Hid (Below W11.heap.size W11 wx) := Lib.hid (by first | exact Below.trans (Below.refl _ _).drew hb | (go_split_ands; exact Below.trans (by assumption) (Below.mono hb (Below.size (by assumption)))))))
  all_goals go_wp2_with fail
  have HBw : Hid (Below w.heap.size w wx) := Lib.hid (HB.out.trans (HBx.out.mono HB.out.size))
  clear HB HSn HSD hvd HVd hb CO1 CO2 CF CSS CSU CSV CST
  have hsi : (s.length : Int) ≤ 100 := by omega
  go_loopw [16] (fun v16 wz => ∃ k : Nat, v16 = .int .i64 (k : Int) ∧ k ≤ s.length ∧ Hid (wz = wx)) (fun v16 _ => s.length - (intOf v16).toNat)
  case atStart => exact ⟨0, rfl, Nat.zero_le _, Lib.hid rfl⟩
  case round =>
    obtain ⟨k, rfl, hk, hw⟩ := hrel
    obtain rfl : wr = wx := hw.out
    clear hw
    by_cases hlt : k < s.length
    · have hki : (k : Int) < 200 := by omega
      have e32 := at_beq s k 32 32 rfl hlt
      cases h32 : atIs s k 32
      · rw [h32] at e32
        clear h32
        go_wp2_with fail
        go_roundw
        case rel => exact ⟨k + 1, by go_num, by omega, by first | exact Lib.hid rfl | exact Lib.hid trivial⟩
        case measure => simp [intOf]; omega
      · rw [h32] at e32
        obtain ⟨q1, q2, q3⟩ := hti.out k hlt (by unfold atIs at h32; rw [List.getElem?_eq_getElem hlt] at h32; simpa using h32)
        clear h32
        obtain ⟨j, hjk⟩ : ∃ j, k = j + 1 := ⟨k - 1, by omega⟩
        have hj : j < s.length := by omega
        have e32b := at_beq s j 32 32 rfl hj
        rw [show atIs s j 32 = false by (unfold atIs; rw [hjk, Nat.add_sub_cancel] at q3; cases hq : s[j]? == some 32 with | false => rfl | true => exact absurd (by simpa using hq) q3)] at e32b
        clear q3
        have z0 : ((k : Int) == 0) = false := by simp; omega
        have z1 : ((k : Int) == (s.length : Int) - 1) = false := by simp; omega
        have z2 : (k : Int) - 1 = (j : Int) := by omega
        clear q1 q2 hjk
        go_wp2_with fail
        go_roundw
        case rel => exact ⟨k + 1, by go_num, by omega, by first | exact Lib.hid rfl | exact Lib.hid trivial⟩
        case measure => simp [intOf]; omega
    · obtain rfl : k = s.length := by omega
      go_wp2_with fail
      go_ret
      exact ⟨rfl, HBw.out⟩
set_option maxRecDepth 100000 in
set_option maxHeartbeats 3200000 in
theorem trims_long (t : Bs) (w : World) (hP : PowTab w) (hM : MaxVar w) (ht : 100 < t.length) :
    Calls Tryz.prog 5 #[.string ⟨t.toArray⟩] w fun e w' => e = .returned (.bool true) ∧ Below w.heap.size w w' := by
  have CA := Lib.hid (awake12_any w hP hM)
  have ht' : (100 : Int) < (t.length : Int) := by omega
  clear hP hM ht
  go_enter Tryz.func5, Tryz.ntmps5
  go_wp2_with fail
  refine CA.out.mono ?_
  rintro x w0 ⟨rfl, hb⟩
  go_wp2_with fail
  go_ret
  exact ⟨rfl, hb⟩
theorem trims_any (t : Bs) (w : World) (hP : PowTab w) (hM : MaxVar w) :
    Calls Tryz.prog 5 #[.string ⟨t.toArray⟩] w fun e w' => e = .returned (.bool true) ∧ Below w.heap.size w w' := by
  by_cases ht : 100 < t.length
  · exact trims_long t w hP hM ht
  · have h := trimB_len t
    refine trims_walk t (trimB t) (t.map (chg 97 122 (· - 32))) (t.map (chg 65 90 (· + 32))) w hP hM (by omega) (by omega) (by rw [List.length_map]; omega) rfl (trimB_trim t) (vText_tV (by rw [List.length_map]; omega)) ?_ (vText_tV (by rw [List.length_map]; omega)) ?_ (fold_up t) (trimB_tight t)
    · rw [lower_upper]
      exact vText_tV (by rw [List.length_map]; omega)
    · have e : Lib.repeatL t 2 = t ++ t := by simp [Lib.repeatL]
      rw [e]
      exact vText_tV (by rw [List.length_append]; omega)
end Go.Proofs.YtpdaloohgfnbhaaGreatDoor
