/-
  The walk of law12.FtextLens.
-/
import Derived.Test.YtpdaloohgfnbhaaGreatDoorFt25
namespace Go.Proofs.YtpdaloohgfnbhaaGreatDoor
open Go.RowKit

abbrev nV (m e : Int) : Val := ⟨1, m, e, [], false, 0⟩
abbrev bV (b : Bool) : Val := ⟨3, 0, 0, [], b, 0⟩
set_option maxRecDepth 100000 in
set_option maxHeartbeats 3200000 in
theorem lens_long (a b : Bs) (w : World) (hP : PowTab w) (hM : MaxVar w) (ht : 60 < a.length ∨ 60 < b.length) :
    Calls Tryz.prog 6 #[.string ⟨a.toArray⟩, .string ⟨b.toArray⟩] w fun e w' => e = .returned (.bool true) ∧ Below w.heap.size w w' := by
  have CA := Lib.hid (awake12_any w hP hM)
  clear hP hM
  by_cases h1 : 60 < a.length
  · have ht' : (60 : Int) < (a.length : Int) := by omega
    clear ht h1
    go_enter Tryz.func6, Tryz.ntmps6
    go_wp2_with fail
    refine CA.out.mono ?_
    rintro x w0 ⟨rfl, hb⟩
    go_wp2_with fail
    all_goals go_ret
    all_goals exact ⟨rfl, hb⟩
  · have ht' : (a.length : Int) ≤ 60 := by omega
    have hs' : (60 : Int) < (b.length : Int) := by omega
    clear ht h1
    go_enter Tryz.func6, Tryz.ntmps6
    go_wp2_with fail
    refine CA.out.mono ?_
    rintro x w0 ⟨rfl, hb⟩
    go_wp2_with fail
    all_goals go_ret
    all_goals exact ⟨rfl, hb⟩
set_option maxRecDepth 100000 in
set_option maxHeartbeats 6400000 in
theorem lens_walk (a b : Bs) (i : Nat) (mc ec ma ea mb eb mf ef : Int) (w : World) (hP : PowTab w) (hM : MaxVar w) (hla : a.length ≤ 60) (hlb : b.length ≤ 60)
    (hc : pCount (a ++ b).length = nV mc ec) (ha : pCount a.length = nV ma ea) (hb0 : pCount b.length = nV mb eb)
    (hF : ∀ W g, PowTab W → MaxVar W → Args W g [arr1 (tV b), arr1 (tV (a ++ b))] → Calls Tryz.prog 9 #[.string ⟨#[70, 73, 78, 68]⟩, .slice (some ⟨g, 0, none⟩) 2 2] W (CallPost (arr1 (nV mf ef)) W))
    (hAdd : ∀ W, Calls Tryz.prog 16 #[.agg #[.int .i64 ma, .int .i64 ea], .agg #[.int .i64 mb, .int .i64 eb]] W fun x w' => x = .returned (.tuple #[.agg #[.int .i64 mc, .int .i64 ec], .bool true]) ∧ Below W.heap.size W w')
    (hInt : ∀ W, Calls Tryz.prog 17 #[.agg #[.int .i64 mf, .int .i64 ef]] W fun x w' => x = .returned (.tuple #[.int .i64 ((i : Int) + 1), .bool true]) ∧ Below W.heap.size W w')
    (hi : i + b.length ≤ a.length + b.length) (hin : ((a ++ b).drop i).take b.length = b) :
    Calls Tryz.prog 6 #[.string ⟨a.toArray⟩, .string ⟨b.toArray⟩] w fun e w' => e = .returned (.bool true) ∧ Below w.heap.size w w' := by
  have hlai : (a.length : Int) ≤ 60 := by omega
  have hlbi : (b.length : Int) ≤ 60 := by omega
  have hii : (i : Int) ≤ (a.length : Int) := by omega
  replace hc := Lib.hid hc
  replace ha := Lib.hid ha
  replace hb0 := Lib.hid hb0
  replace hF := Lib.hid hF
  have HAdd := Lib.hid hAdd
  have HInt := Lib.hid hInt
  have HIn := Lib.hid hin
  clear hAdd hInt hin hi
  have HP := Lib.hid (fun W (h : Below w.heap.size w W) => hP.next h)
  have HM := Lib.hid (fun W (h : Below w.heap.size w W) => hM.next h)
  have HB := Lib.hid (Below.refl w.heap.size w)
  clear hP hM
  go_enter Tryz.func6, Tryz.ntmps6
  go_wp2_with fail
  refine (awake12_any _ (HP.out _ (Below.refl _ _)) (HM.out _ (Below.refl _ _))).mono ?_
  rintro x w0 ⟨rfl, hb⟩
  replace HB := Lib.hid (HB.out.trans (hb.mono HB.out.size))
  clear hb
  go_upto_region 5 with fail
  go_wp2_with fail
  refine (one12_any a _).mono ?_
  rintro x w1 ⟨v, rfl, ⟨g1, c1, rfl, hv⟩, hb⟩
  replace HB := Lib.hid (HB.out.trans (hb.mono HB.out.size))
  have HV1 := Lib.hid hv
  clear hb hv
  dsimp only [arr1, List.length_cons, List.length_nil, Nat.zero_add, List.map_cons, List.map_nil]
  go_wp2_with fail
  refine (one12_any b _).mono ?_
  rintro x w2 ⟨v, rfl, ⟨g2, c2, rfl, hv⟩, hb⟩
  replace HB := Lib.hid (HB.out.trans (hb.mono HB.out.size))
  replace HV1 := Lib.hid (HV1.out.next hb)
  have HV2 := Lib.hid hv
  clear hb hv
  dsimp only [arr1, List.length_cons, List.length_nil, Nat.zero_add, List.map_cons, List.map_nil]
  have hA := args_two (a := arr1 (tV a)) (b := arr1 (tV b)) (c1 := c1) (c2 := c2) HV1.out HV2.out 25
  have HA := Lib.hid hA
  have HBa := Lib.hid (HB.out.alloc HB.out.size (.cells #[.int .i64 (arr1 (tV a)).r, .int .i64 (arr1 (tV a)).c, .slice (some ⟨g1, 0, none⟩) (arr1 (tV a)).vs.length c1, .int .i64 (arr1 (tV b)).r, .int .i64 (arr1 (tV b)).c, .slice (some ⟨g2, 0, none⟩) (arr1 (tV b)).vs.length c2] 25))
  have hbA : Below w2.heap.size w2 (w2.alloc (.cells #[.int .i64 (arr1 (tV a)).r, .int .i64 (arr1 (tV a)).c, .slice (some ⟨g1, 0, none⟩) (arr1 (tV a)).vs.length c1, .int .i64 (arr1 (tV b)).r, .int .i64 (arr1 (tV b)).c, .slice (some ⟨g2, 0, none⟩) (arr1 (tV b)).vs.length c2] 25)) := (Below.refl _ _).alloc (Nat.le_refl _) _
  have CC := Lib.hid (call_concat a b (by omega) _ 2 _ (HP.out _ HBa.out) HA.out)
  clear hA HA HBa
  dsimp only [arr1, List.length_cons, List.length_nil, Nat.zero_add, List.map_cons, List.map_nil] at CC hbA ⊢
  have HbA := Lib.hid hbA
  clear hbA
  go_wp2_with fail
  refine CC.out.mono ?_
  rintro x w3 ⟨v, rfl, ⟨g3, c3, rfl, hv⟩, hb⟩
  have hb2 := HbA.out.trans (hb.mono HbA.out.size)
  replace HB := Lib.hid (HB.out.trans (hb2.mono HB.out.size))
  replace HV1 := Lib.hid (HV1.out.next hb2)
  replace HV2 := Lib.hid (HV2.out.next hb2)
  have HV3 := Lib.hid hv
  clear hb hb2 hv CC HbA
  dsimp only [arr1, List.length_cons, List.length_nil, Nat.zero_add, List.map_cons, List.map_nil]
  go_upto_region 6 with fail
  have hb2 : Below w3.heap.size w3 (w3.alloc (.cells #[.int .i64 1, .int .i64 1, .slice (some ⟨g3, 0, none⟩) 1 c3] 25)) := (Below.refl _ _).alloc (Nat.le_refl _) _
  replace HB := Lib.hid (HB.out.trans (hb2.mono HB.out.size))
  replace HV1 := Lib.hid (HV1.out.next hb2)
  replace HV2 := Lib.hid (HV2.out.next hb2)
  replace HV3 := Lib.hid (HV3.out.next hb2)
  have HX3 := Lib.hid (Lies.new w3 25 #[.int .i64 1, .int .i64 1, .slice (some ⟨g3, 0, none⟩) 1 c3])
  clear hb2
  generalize w3.alloc (.cells #[.int .i64 1, .int .i64 1, .slice (some ⟨g3, 0, none⟩) 1 c3] 25) = W3 at *
  generalize w3.heap.size = b3 at *
  have xc0 := HX3.out.cell 0
  have xc1 := HX3.out.cell 1
  have xc2 := HX3.out.cell 2
  simp only [List.getElem?_toArray, List.getElem?_cons_zero, List.getElem?_cons_succ] at xc0 xc1 xc2
  have hA := args_one (a := arr1 (tV (a ++ b))) (c := c3) HV3.out 25
  have HA := Lib.hid hA
  have HBa := Lib.hid (HB.out.alloc HB.out.size (.cells #[.int .i64 (arr1 (tV (a ++ b))).r, .int .i64 (arr1 (tV (a ++ b))).c, .slice (some ⟨g3, 0, none⟩) (arr1 (tV (a ++ b))).vs.length c3] 25))
  have hbA : Below W3.heap.size W3 (W3.alloc (.cells #[.int .i64 (arr1 (tV (a ++ b))).r, .int .i64 (arr1 (tV (a ++ b))).c, .slice (some ⟨g3, 0, none⟩) (arr1 (tV (a ++ b))).vs.length c3] 25)) := (Below.refl _ _).alloc (Nat.le_refl _) _
  have CC := Lib.hid (call_len (a ++ b) (by rw [List.length_append]; omega) _ 1 _ (HP.out _ HBa.out) HA.out)
  rw [hc.out] at CC
  clear hA HA HBa
  dsimp only [arr1, List.length_cons, List.length_nil, Nat.zero_add, List.map_cons, List.map_nil] at CC hbA ⊢
  have HbA := Lib.hid hbA
  clear hbA
  go_wp2_with fail
  clear xc0 xc1 xc2
  refine CC.out.mono ?_
  rintro x w4 ⟨v, rfl, ⟨g4, c4, rfl, hv⟩, hb⟩
  have hb2 := HbA.out.trans (hb.mono HbA.out.size)
  replace HB := Lib.hid (HB.out.trans (hb2.mono HB.out.size))
  replace HV1 := Lib.hid (HV1.out.next hb2)
  replace HV2 := Lib.hid (HV2.out.next hb2)
  replace HV3 := Lib.hid (HV3.out.next hb2)
  replace HX3 := Lib.hid (HX3.out.next hb2)
  have HV4 := Lib.hid hv
  clear hb hb2 hv CC HbA
  dsimp only [arr1, List.length_cons, List.length_nil, Nat.zero_add, List.map_cons, List.map_nil]
  go_upto_region 7 with fail
  have hb2 : Below w4.heap.size w4 (w4.alloc (.cells #[.int .i64 1, .int .i64 1, .slice (some ⟨g4, 0, none⟩) 1 c4] 25)) := (Below.refl _ _).alloc (Nat.le_refl _) _
  replace HB := Lib.hid (HB.out.trans (hb2.mono HB.out.size))
  replace HV1 := Lib.hid (HV1.out.next hb2)
  replace HV2 := Lib.hid (HV2.out.next hb2)
  replace HV3 := Lib.hid (HV3.out.next hb2)
  replace HX3 := Lib.hid (HX3.out.next hb2)
  replace HV4 := Lib.hid (HV4.out.next hb2)
  have HX4 := Lib.hid (Lies.new w4 25 #[.int .i64 1, .int .i64 1, .slice (some ⟨g4, 0, none⟩) 1 c4])
  clear hb2
  generalize w4.alloc (.cells #[.int .i64 1, .int .i64 1, .slice (some ⟨g4, 0, none⟩) 1 c4] 25) = W4 at *
  generalize w4.heap.size = b4 at *
  go_wp2_with fail
  refine (one12_any a _).mono ?_
  rintro x w5 ⟨v, rfl, ⟨g5, c5, rfl, hv⟩, hb⟩
  replace HB := Lib.hid (HB.out.trans (hb.mono HB.out.size))
  replace HV1 := Lib.hid (HV1.out.next hb)
  replace HV2 := Lib.hid (HV2.out.next hb)
  replace HV3 := Lib.hid (HV3.out.next hb)
  replace HX3 := Lib.hid (HX3.out.next hb)
  replace HV4 := Lib.hid (HV4.out.next hb)
  replace HX4 := Lib.hid (HX4.out.next hb)
  have HV5 := Lib.hid hv
  clear hb hv
  dsimp only [arr1, List.length_cons, List.length_nil, Nat.zero_add, List.map_cons, List.map_nil]
  have hA := args_one (a := arr1 (tV a)) (c := c5) HV5.out 25
  have HA := Lib.hid hA
  have HBa := Lib.hid (HB.out.alloc HB.out.size (.cells #[.int .i64 (arr1 (tV a)).r, .int .i64 (arr1 (tV a)).c, .slice (some ⟨g5, 0, none⟩) (arr1 (tV a)).vs.length c5] 25))
  have hbA : Below w5.heap.size w5 (w5.alloc (.cells #[.int .i64 (arr1 (tV a)).r, .int .i64 (arr1 (tV a)).c, .slice (some ⟨g5, 0, none⟩) (arr1 (tV a)).vs.length c5] 25)) := (Below.refl _ _).alloc (Nat.le_refl _) _
  have CC := Lib.hid (call_len a (by omega) _ 1 _ (HP.out _ HBa.out) HA.out)
  rw [ha.out] at CC
  clear hA HA HBa
  dsimp only [arr1, List.length_cons, List.length_nil, Nat.zero_add, List.map_cons, List.map_nil] at CC hbA ⊢
  have HbA := Lib.hid hbA
  clear hbA
  go_wp2_with fail
  refine CC.out.mono ?_
  rintro x w6 ⟨v, rfl, ⟨g6, c6, rfl, hv⟩, hb⟩
  have hb2 := HbA.out.trans (hb.mono HbA.out.size)
  replace HB := Lib.hid (HB.out.trans (hb2.mono HB.out.size))
  replace HV1 := Lib.hid (HV1.out.next hb2)
  replace HV2 := Lib.hid (HV2.out.next hb2)
  replace HV3 := Lib.hid (HV3.out.next hb2)
  replace HX3 := Lib.hid (HX3.out.next hb2)
  replace HV4 := Lib.hid (HV4.out.next hb2)
  replace HX4 := Lib.hid (HX4.out.next hb2)
  replace HV5 := Lib.hid (HV5.out.next hb2)
  have HV6 := Lib.hid hv
  clear hb hb2 hv CC HbA
  dsimp only [arr1, List.length_cons, List.length_nil, Nat.zero_add, List.map_cons, List.map_nil]
  go_upto_region 8 with fail
  have hb2 : Below w6.heap.size w6 (w6.alloc (.cells #[.int .i64 1, .int .i64 1, .slice (some ⟨g6, 0, none⟩) 1 c6] 25)) := (Below.refl _ _).alloc (Nat.le_refl _) _
  replace HB := Lib.hid (HB.out.trans (hb2.mono HB.out.size))
  replace HV1 := Lib.hid (HV1.out.next hb2)
  replace HV2 := Lib.hid (HV2.out.next hb2)
  replace HV3 := Lib.hid (HV3.out.next hb2)
  replace HX3 := Lib.hid (HX3.out.next hb2)
  replace HV4 := Lib.hid (HV4.out.next hb2)
  replace HX4 := Lib.hid (HX4.out.next hb2)
  replace HV5 := Lib.hid (HV5.out.next hb2)
  replace HV6 := Lib.hid (HV6.out.next hb2)
  have HX6 := Lib.hid (Lies.new w6 25 #[.int .i64 1, .int .i64 1, .slice (some ⟨g6, 0, none⟩) 1 c6])
  clear hb2
  generalize w6.alloc (.cells #[.int .i64 1, .int .i64 1, .slice (some ⟨g6, 0, none⟩) 1 c6] 25) = W6 at *
  generalize w6.heap.size = b6 at *
  go_wp2_with fail
  refine (one12_any b _).mono ?_
  rintro x w7 ⟨v, rfl, ⟨g7, c7, rfl, hv⟩, hb⟩
  replace HB := Lib.hid (HB.out.trans (hb.mono HB.out.size))
  replace HV1 := Lib.hid (HV1.out.next hb)
  replace HV2 := Lib.hid (HV2.out.next hb)
  replace HV3 := Lib.hid (HV3.out.next hb)
  replace HX3 := Lib.hid (HX3.out.next hb)
  replace HV4 := Lib.hid (HV4.out.next hb)
  replace HX4 := Lib.hid (HX4.out.next hb)
  replace HV5 := Lib.hid (HV5.out.next hb)
  replace HV6 := Lib.hid (HV6.out.next hb)
  replace HX6 := Lib.hid (HX6.out.next hb)
  have HV7 := Lib.hid hv
  clear hb hv
  dsimp only [arr1, List.length_cons, List.length_nil, Nat.zero_add, List.map_cons, List.map_nil]
  have hA := args_one (a := arr1 (tV b)) (c := c7) HV7.out 25
  have HA := Lib.hid hA
  have HBa := Lib.hid (HB.out.alloc HB.out.size (.cells #[.int .i64 (arr1 (tV b)).r, .int .i64 (arr1 (tV b)).c, .slice (some ⟨g7, 0, none⟩) (arr1 (tV b)).vs.length c7] 25))
  have hbA : Below w7.heap.size w7 (w7.alloc (.cells #[.int .i64 (arr1 (tV b)).r, .int .i64 (arr1 (tV b)).c, .slice (some ⟨g7, 0, none⟩) (arr1 (tV b)).vs.length c7] 25)) := (Below.refl _ _).alloc (Nat.le_refl _) _
  have CC := Lib.hid (call_len b (by omega) _ 1 _ (HP.out _ HBa.out) HA.out)
  rw [hb0.out] at CC
  clear hA HA HBa
  dsimp only [arr1, List.length_cons, List.length_nil, Nat.zero_add, List.map_cons, List.map_nil] at CC hbA ⊢
  have HbA := Lib.hid hbA
  clear hbA
  go_wp2_with fail
  refine CC.out.mono ?_
  rintro x w8 ⟨v, rfl, ⟨g8, c8, rfl, hv⟩, hb⟩
  have hb2 := HbA.out.trans (hb.mono HbA.out.size)
  replace HB := Lib.hid (HB.out.trans (hb2.mono HB.out.size))
  replace HV1 := Lib.hid (HV1.out.next hb2)
  replace HV2 := Lib.hid (HV2.out.next hb2)
  replace HV3 := Lib.hid (HV3.out.next hb2)
  replace HX3 := Lib.hid (HX3.out.next hb2)
  replace HV4 := Lib.hid (HV4.out.next hb2)
  replace HX4 := Lib.hid (HX4.out.next hb2)
  replace HV5 := Lib.hid (HV5.out.next hb2)
  replace HV6 := Lib.hid (HV6.out.next hb2)
  replace HX6 := Lib.hid (HX6.out.next hb2)
  replace HV7 := Lib.hid (HV7.out.next hb2)
  have HV8 := Lib.hid hv
  clear hb hb2 hv CC HbA
  dsimp only [arr1, List.length_cons, List.length_nil, Nat.zero_add, List.map_cons, List.map_nil]
  go_upto_region 9 with fail
  have hb2 : Below w8.heap.size w8 (w8.alloc (.cells #[.int .i64 1, .int .i64 1, .slice (some ⟨g8, 0, none⟩) 1 c8] 25)) := (Below.refl _ _).alloc (Nat.le_refl _) _
  replace HB := Lib.hid (HB.out.trans (hb2.mono HB.out.size))
  replace HV1 := Lib.hid (HV1.out.next hb2)
  replace HV2 := Lib.hid (HV2.out.next hb2)
  replace HV3 := Lib.hid (HV3.out.next hb2)
  replace HX3 := Lib.hid (HX3.out.next hb2)
  replace HV4 := Lib.hid (HV4.out.next hb2)
  replace HX4 := Lib.hid (HX4.out.next hb2)
  replace HV5 := Lib.hid (HV5.out.next hb2)
  replace HV6 := Lib.hid (HV6.out.next hb2)
  replace HX6 := Lib.hid (HX6.out.next hb2)
  replace HV7 := Lib.hid (HV7.out.next hb2)
  replace HV8 := Lib.hid (HV8.out.next hb2)
  have HX8 := Lib.hid (Lies.new w8 25 #[.int .i64 1, .int .i64 1, .slice (some ⟨g8, 0, none⟩) 1 c8])
  clear hb2
  generalize w8.alloc (.cells #[.int .i64 1, .int .i64 1, .slice (some ⟨g8, 0, none⟩) 1 c8] 25) = W8 at *
  generalize w8.heap.size = b8 at *
  go_wp2_with fail
  refine (one12_any a _).mono ?_
  rintro x w9 ⟨v, rfl, ⟨g9, c9, rfl, hv⟩, hb⟩
  replace HB := Lib.hid (HB.out.trans (hb.mono HB.out.size))
  replace HV1 := Lib.hid (HV1.out.next hb)
  replace HV2 := Lib.hid (HV2.out.next hb)
  replace HV3 := Lib.hid (HV3.out.next hb)
  replace HX3 := Lib.hid (HX3.out.next hb)
  replace HV4 := Lib.hid (HV4.out.next hb)
  replace HX4 := Lib.hid (HX4.out.next hb)
  replace HV5 := Lib.hid (HV5.out.next hb)
  replace HV6 := Lib.hid (HV6.out.next hb)
  replace HX6 := Lib.hid (HX6.out.next hb)
  replace HV7 := Lib.hid (HV7.out.next hb)
  replace HV8 := Lib.hid (HV8.out.next hb)
  replace HX8 := Lib.hid (HX8.out.next hb)
  have HV9 := Lib.hid hv
  clear hb hv
  dsimp only [arr1, List.length_cons, List.length_nil, Nat.zero_add, List.map_cons, List.map_nil]
  go_wp2_with fail
  refine (one12_any b _).mono ?_
  rintro x w10 ⟨v, rfl, ⟨g10, c10, rfl, hv⟩, hb⟩
  replace HB := Lib.hid (HB.out.trans (hb.mono HB.out.size))
  replace HV1 := Lib.hid (HV1.out.next hb)
  replace HV2 := Lib.hid (HV2.out.next hb)
  replace HV3 := Lib.hid (HV3.out.next hb)
  replace HX3 := Lib.hid (HX3.out.next hb)
  replace HV4 := Lib.hid (HV4.out.next hb)
  replace HX4 := Lib.hid (HX4.out.next hb)
  replace HV5 := Lib.hid (HV5.out.next hb)
  replace HV6 := Lib.hid (HV6.out.next hb)
  replace HX6 := Lib.hid (HX6.out.next hb)
  replace HV7 := Lib.hid (HV7.out.next hb)
  replace HV8 := Lib.hid (HV8.out.next hb)
  replace HX8 := Lib.hid (HX8.out.next hb)
  replace HV9 := Lib.hid (HV9.out.next hb)
  have HV10 := Lib.hid hv
  clear hb hv
  dsimp only [arr1, List.length_cons, List.length_nil, Nat.zero_add, List.map_cons, List.map_nil]
  have hA := args_two (a := arr1 (tV a)) (b := arr1 (tV b)) (c1 := c9) (c2 := c10) HV9.out HV10.out 25
  have HA := Lib.hid hA
  have HBa := Lib.hid (HB.out.alloc HB.out.size (.cells #[.int .i64 (arr1 (tV a)).r, .int .i64 (arr1 (tV a)).c, .slice (some ⟨g9, 0, none⟩) (arr1 (tV a)).vs.length c9, .int .i64 (arr1 (tV b)).r, .int .i64 (arr1 (tV b)).c, .slice (some ⟨g10, 0, none⟩) (arr1 (tV b)).vs.length c10] 25))
  have hbA : Below w10.heap.size w10 (w10.alloc (.cells #[.int .i64 (arr1 (tV a)).r, .int .i64 (arr1 (tV a)).c, .slice (some ⟨g9, 0, none⟩) (arr1 (tV a)).vs.length c9, .int .i64 (arr1 (tV b)).r, .int .i64 (arr1 (tV b)).c, .slice (some ⟨g10, 0, none⟩) (arr1 (tV b)).vs.length c10] 25)) := (Below.refl _ _).alloc (Nat.le_refl _) _
  have CC := Lib.hid (call_exact a b (by omega) (by omega) _ 2 _ (HP.out _ HBa.out) HA.out)
  clear hA HA HBa
  dsimp only [arr1, List.length_cons, List.length_nil, Nat.zero_add, List.map_cons, List.map_nil] at CC hbA ⊢
  have HbA := Lib.hid hbA
  clear hbA
  go_wp2_with fail
  refine CC.out.mono ?_
  rintro x w11 ⟨v, rfl, ⟨g11, c11, rfl, hv⟩, hb⟩
  have hb2 := HbA.out.trans (hb.mono HbA.out.size)
  replace HB := Lib.hid (HB.out.trans (hb2.mono HB.out.size))
  replace HV1 := Lib.hid (HV1.out.next hb2)
  replace HV2 := Lib.hid (HV2.out.next hb2)
  replace HV3 := Lib.hid (HV3.out.next hb2)
  replace HX3 := Lib.hid (HX3.out.next hb2)
  replace HV4 := Lib.hid (HV4.out.next hb2)
  replace HX4 := Lib.hid (HX4.out.next hb2)
  replace HV5 := Lib.hid (HV5.out.next hb2)
  replace HV6 := Lib.hid (HV6.out.next hb2)
  replace HX6 := Lib.hid (HX6.out.next hb2)
  replace HV7 := Lib.hid (HV7.out.next hb2)
  replace HV8 := Lib.hid (HV8.out.next hb2)
  replace HX8 := Lib.hid (HX8.out.next hb2)
  replace HV9 := Lib.hid (HV9.out.next hb2)
  replace HV10 := Lib.hid (HV10.out.next hb2)
  have HV11 := Lib.hid hv
  clear hb hb2 hv CC HbA
  dsimp only [arr1, List.length_cons, List.length_nil, Nat.zero_add, List.map_cons, List.map_nil]
  go_upto_region 10 with fail
  have hb2 : Below w11.heap.size w11 (w11.alloc (.cells #[.int .i64 1, .int .i64 1, .slice (some ⟨g11, 0, none⟩) 1 c11] 25)) := (Below.refl _ _).alloc (Nat.le_refl _) _
  replace HB := Lib.hid (HB.out.trans (hb2.mono HB.out.size))
  replace HV1 := Lib.hid (HV1.out.next hb2)
  replace HV2 := Lib.hid (HV2.out.next hb2)
  replace HV3 := Lib.hid (HV3.out.next hb2)
  replace HX3 := Lib.hid (HX3.out.next hb2)
  replace HV4 := Lib.hid (HV4.out.next hb2)
  replace HX4 := Lib.hid (HX4.out.next hb2)
  replace HV5 := Lib.hid (HV5.out.next hb2)
  replace HV6 := Lib.hid (HV6.out.next hb2)
  replace HX6 := Lib.hid (HX6.out.next hb2)
  replace HV7 := Lib.hid (HV7.out.next hb2)
  replace HV8 := Lib.hid (HV8.out.next hb2)
  replace HX8 := Lib.hid (HX8.out.next hb2)
  replace HV9 := Lib.hid (HV9.out.next hb2)
  replace HV10 := Lib.hid (HV10.out.next hb2)
  replace HV11 := Lib.hid (HV11.out.next hb2)
  have HX11 := Lib.hid (Lies.new w11 25 #[.int .i64 1, .int .i64 1, .slice (some ⟨g11, 0, none⟩) 1 c11])
  clear hb2
  generalize w11.alloc (.cells #[.int .i64 1, .int .i64 1, .slice (some ⟨g11, 0, none⟩) 1 c11] 25) = W11 at *
  generalize w11.heap.size = b11 at *
  have HCon := Lib.hid (fun W g (hb : Below W11.heap.size W11 W) hA => hF.out W g (HP.out _ (HB.out.trans (hb.mono HB.out.size))) (HM.out _ (HB.out.trans (hb.mono HB.out.size))) hA)
  clear hF
  clear HV1 HV2 HV5 HV7 HV9 HV10
  obtain ⟨TT, hTT⟩ : ∃ TT : List (Nat × Nat × (Value → World → Prop)), TT = [(0, 70, Is (.string ⟨(b).toArray⟩)), (1, 71, PA (arr1 (tV b))), (2, 72, Is (.agg #[.int .i64 1, .int .i64 1, .slice (some ⟨g3, 0, none⟩) 1 c3])), (3, 73, PAr 2 [arr1 (tV b), arr1 (tV (a ++ b))]), (4, 74, PR (arr1 (nV mf ef))), (5, 69, PR (arr1 (nV mf ef))), (6, 75, PA (arr1 (nV mf ef))), (7, 76, Is (.bool true)), (10, 16, Is (.bool true))] := ⟨_, rfl⟩
  have hcE : ∀ args W, (callFunc 9 args).run Tryz.prog W = .ok (.enter 9 args) W := enters_of Tryz.func9 (by kernel_rfl) rfl
  have hoE : ∀ args W, (callFunc 10 args).run Tryz.prog W = .ok (.enter 10 args) W := enters_of Tryz.func10 (by kernel_rfl) rfl
  have HcE := Lib.hid hcE
  have HoE := Lib.hid hoE
  have HTT := Lib.hid hTT
  clear hcE hoE hTT
  go_cut [15, 16] from 183 (fun vA vB wy => ∃ bx g cap : Nat, vA = .pointer (some ⟨bx, 0, none⟩) ∧ vB = .bool true ∧ W11.heap.size ≤ bx ∧ Hid (Lies wy bx 25 #[.int .i64 (arr1 (nV mf ef)).r, .int .i64 (arr1 (nV mf ef)).c, .slice (some ⟨g, 0, none⟩) (arr1 (nV mf ef)).vs.length cap]) ∧ Hid (VP wy g (arr1 (nV mf ef)).vs) ∧ Hid (Below W11.heap.size W11 wy))
  case first =>
    refine wp_region_invB (by kernel_rfl) (by kernel_rfl) (fun a0 => 183 ≤ a0.tmps.size ∧ a0.eval (.tmp 5) = .pointer (some ⟨b3, 0, none⟩) ∧ a0.eval (.tmp 1) = .string ⟨b.toArray⟩) (GI [70, 71, 72, 73, 74, 69, 75, 76, 15, 16] TT W11 8 15 9 25 #[.int .i64 0, .int .i64 0, .slice none 0 0] (PC (arr1 (nV mf ef)))) ⟨by simp, rfl, rfl⟩ (GI.start _ _ (Below.refl _ _).drew) ?_ ?_
    · rintro a0 ⟨hs, h5, h1⟩ listed a1 w1 j o hsz hI hun ho hdeps
      have hTT := HTT.out
      subst hTT
      have hk : GOk [70, 71, 72, 73, 74, 69, 75, 76, 15, 16] [(0, 70, Is (.string ⟨(b).toArray⟩)), (1, 71, PA (arr1 (tV b))), (2, 72, Is (.agg #[.int .i64 1, .int .i64 1, .slice (some ⟨g3, 0, none⟩) 1 c3])), (3, 73, PAr 2 [arr1 (tV b), arr1 (tV (a ++ b))]), (4, 74, PR (arr1 (nV mf ef))), (5, 69, PR (arr1 (nV mf ef))), (6, 75, PA (arr1 (nV mf ef))), (7, 76, Is (.bool true)), (10, 16, Is (.bool true))] 8 15 9 183 25 3 (PC (arr1 (nV mf ef))) := ⟨rfl, by
        intro e he
        simp only [List.mem_cons, List.not_mem_nil, or_false] at he
        rcases he with rfl | rfl | rfl | rfl | rfl | rfl | rfl | rfl | rfl
        · exact last_is _ _ _
        · exact last_PA _
        · exact last_is _ _ _
        · exact last_PAr _ _ (by decide)
        · exact last_PR _
        · exact last_PR _
        · exact last_PA _
        · exact last_is _ _ _
        · exact last_is _ _ _
        , pc_grow _, pc_put _⟩
      have hj := Up.of_false hun
      have hj12 : j < 11 := by rw [hsz] at hj; exact hj
      have e5 : a1.eval (.tmp 5) = .pointer (some ⟨b3, 0, none⟩) := (hI.off.eval (by decide)).trans h5
      have e1 : a1.eval (.tmp 1) = .string ⟨b.toArray⟩ := (hI.off.eval (by decide)).trans h1
      have hLx : Lies w1 b3 25 #[.int .i64 1, .int .i64 1, .slice (some ⟨g3, 0, none⟩) 1 c3] := HX3.out.next hI.bel
      have m0 := hLx.cell 0
      have m1 := hLx.cell 1
      have m2 := hLx.cell 2
      simp only [List.getElem?_toArray, List.getElem?_cons_zero, List.getElem?_cons_succ] at m0 m1 m2
      rcases (by omega : j = 0 ∨ j = 1 ∨ j = 2 ∨ j = 3 ∨ j = 4 ∨ j = 5 ∨ j = 6 ∨ j = 7 ∨ j = 8 ∨ j = 9 ∨ j = 10) with rfl | rfl | rfl | rfl | rfl | rfl | rfl | rfl | rfl | rfl | rfl
      · have ho2 := ho
        simp only [List.getElem?_toArray, List.getElem?_cons_zero, Option.some.injEq] at ho2
        subst ho2
        exact gi_val hk hI hs (.head _) (.string ⟨(b).toArray⟩) _ hun ho rfl rfl (by simp [execOp, go_sem, tget e1]) (Below.refl _ _) rfl
      · have ho2 := ho
        simp only [List.getElem?_toArray, List.getElem?_cons_zero, List.getElem?_cons_succ, Option.some.injEq] at ho2
        subst ho2
        have d0 : Up listed 0 := hdeps { on := 0, ground := .data } (by simp) rfl
        have p0 : a1.eval (.tmp 70) = .string ⟨(b).toArray⟩ := hI.pt (0, 70, Is (.string ⟨(b).toArray⟩)) (.head _) d0
        refine gi_call hk hI hs (.tail _ (.head _)) 10 #[.string ⟨(b).toArray⟩] hun ho rfl rfl (by simp [go_sem, tget p0, HoE.out]) ?_
        refine (one12_any b w1).mono ?_
        rintro e w2 ⟨v, rfl, h, hb⟩
        exact ⟨v, rfl, hb, h⟩
      · have ho2 := ho
        simp only [List.getElem?_toArray, List.getElem?_cons_zero, List.getElem?_cons_succ, Option.some.injEq] at ho2
        subst ho2
        exact gi_val hk hI hs (.tail _ (.tail _ (.head _))) (.agg #[.int .i64 1, .int .i64 1, .slice (some ⟨g3, 0, none⟩) 1 c3]) _ hun ho rfl rfl (by simp [execOp, go_sem, tget e5, m0, m1, m2]) (Below.refl _ _) rfl
      · have ho2 := ho
        simp only [List.getElem?_toArray, List.getElem?_cons_zero, List.getElem?_cons_succ, Option.some.injEq] at ho2
        subst ho2
        have d1 : Up listed 1 := hdeps { on := 1, ground := .data } (by simp) rfl
        obtain ⟨gq1, cq1, p1, hv1⟩ := hI.pt (1, 71, PA (arr1 (tV b))) (.tail _ (.head _)) d1
        have d2 : Up listed 2 := hdeps { on := 2, ground := .data } (by simp) rfl
        have p2 : a1.eval (.tmp 72) = (.agg #[.int .i64 1, .int .i64 1, .slice (some ⟨g3, 0, none⟩) 1 c3]) := hI.pt (2, 72, Is (.agg #[.int .i64 1, .int .i64 1, .slice (some ⟨g3, 0, none⟩) 1 c3])) (.tail _ (.tail _ (.head _))) d2
        have hv2 := HV3.out.next hI.bel
        exact gi_val hk hI hs (.tail _ (.tail _ (.tail _ (.head _)))) (.slice (some ⟨w1.heap.size, 0, none⟩) 2 2) _ hun ho rfl rfl (by simp [execOp, go_sem, tget p1, tget p2, arr1]) ((Below.refl _ _).alloc (Nat.le_refl _) _) ⟨_, _, rfl, Lies.new _ _ _, rfl, args_two (a := arr1 (tV b)) (c1 := cq1) (b := arr1 (tV (a ++ b))) (c2 := c3) hv1 hv2 25⟩
      · have ho2 := ho
        simp only [List.getElem?_toArray, List.getElem?_cons_zero, List.getElem?_cons_succ, Option.some.injEq] at ho2
        subst ho2
        have d3 : Up listed 3 := hdeps { on := 3, ground := .data } (by simp) rfl
        obtain ⟨gq, csq, p3, -, -, hA⟩ := hI.pt (3, 73, PAr 2 [arr1 (tV b), arr1 (tV (a ++ b))]) (.tail _ (.tail _ (.tail _ (.head _)))) d3
        refine gi_call hk hI hs (.tail _ (.tail _ (.tail _ (.tail _ (.head _))))) 9 #[.string ⟨#[70, 73, 78, 68]⟩, .slice (some ⟨gq, 0, none⟩) 2 2] hun ho rfl rfl (by simp [go_sem, tget p3, HcE.out]) ?_
        refine (HCon.out w1 gq hI.bel hA).mono ?_
        rintro e w2 ⟨v, rfl, h, hb⟩
        exact ⟨_, rfl, hb, v, rfl, h⟩
      · have ho2 := ho
        simp only [List.getElem?_toArray, List.getElem?_cons_zero, List.getElem?_cons_succ, Option.some.injEq] at ho2
        subst ho2
        have d4 : Up listed 4 := hdeps { on := 4, ground := .data } (by simp) rfl
        obtain ⟨u, p4, h⟩ := hI.pt (4, 74, PR (arr1 (nV mf ef))) (.tail _ (.tail _ (.tail _ (.tail _ (.head _))))) d4
        exact gi_val hk hI hs (.tail _ (.tail _ (.tail _ (.tail _ (.tail _ (.head _)))))) (.tuple #[u, .bool true]) _ hun ho rfl rfl (by simp [execOp, go_sem, tget p4]) (Below.refl _ _) ⟨u, rfl, h⟩
      · have ho2 := ho
        simp only [List.getElem?_toArray, List.getElem?_cons_zero, List.getElem?_cons_succ, Option.some.injEq] at ho2
        subst ho2
        have d5 : Up listed 5 := hdeps { on := 5, ground := .data } (by simp) rfl
        obtain ⟨u, p5, h⟩ := hI.pt (5, 69, PR (arr1 (nV mf ef))) (.tail _ (.tail _ (.tail _ (.tail _ (.tail _ (.head _)))))) d5
        exact gi_val hk hI hs (.tail _ (.tail _ (.tail _ (.tail _ (.tail _ (.tail _ (.head _))))))) u _ hun ho rfl rfl (by simp [execOp, go_sem, tget p5]) (Below.refl _ _) h
      · have ho2 := ho
        simp only [List.getElem?_toArray, List.getElem?_cons_zero, List.getElem?_cons_succ, Option.some.injEq] at ho2
        subst ho2
        have d5 : Up listed 5 := hdeps { on := 5, ground := .data } (by simp) rfl
        obtain ⟨u, p5, h⟩ := hI.pt (5, 69, PR (arr1 (nV mf ef))) (.tail _ (.tail _ (.tail _ (.tail _ (.tail _ (.head _)))))) d5
        exact gi_val hk hI hs (.tail _ (.tail _ (.tail _ (.tail _ (.tail _ (.tail _ (.tail _ (.head _)))))))) (.bool true) _ hun ho rfl rfl (by simp [execOp, go_sem, tget p5]) (Below.refl _ _) rfl
      · have ho2 := ho
        simp only [List.getElem?_toArray, List.getElem?_cons_zero, List.getElem?_cons_succ, Option.some.injEq] at ho2
        subst ho2
        exact gi_alloc hk hI hs hun ho rfl rfl (fun W => by simp [execOp, go_sem])
      · have ho2 := ho
        simp only [List.getElem?_toArray, List.getElem?_cons_zero, List.getElem?_cons_succ, Option.some.injEq] at ho2
        subst ho2
        have d8 : Up listed 8 := hdeps { on := 8, ground := .data } (by simp) rfl
        have d6 : Up listed 6 := hdeps { on := 6, ground := .data } (by simp) rfl
        obtain ⟨gq, cq, p6, hv⟩ := hI.pt (6, 75, PA (arr1 (nV mf ef))) (.tail _ (.tail _ (.tail _ (.tail _ (.tail _ (.tail _ (.head _))))))) d6
        exact gi_store hk hI hun ho rfl rfl d8 [.int .i64 (arr1 (nV mf ef)).r, .int .i64 (arr1 (nV mf ef)).c, .slice (some ⟨gq, 0, none⟩) (arr1 (nV mf ef)).vs.length cq] rfl rfl ⟨gq, cq, rfl, hv⟩ (fun bx g1 g2 => by
          have c0 := g2.cell 0
          have k0 := g2.frozen 0
          have c1 := g2.cell 1
          have k1 := g2.frozen 1
          have c2 := g2.cell 2
          have k2 := g2.frozen 2
          simp at c0 c1 c2
          simp [execOp, go_sem, tget p6, tget g1, putL, c0, k0, c1, k1, c2, k2])
      · have ho2 := ho
        simp only [List.getElem?_toArray, List.getElem?_cons_zero, List.getElem?_cons_succ, Option.some.injEq] at ho2
        subst ho2
        have d7 : Up listed 7 := hdeps { on := 7, ground := .data } (by simp) rfl
        have p7 : a1.eval (.tmp 76) = .bool true := hI.pt (7, 76, Is (.bool true)) (.tail _ (.tail _ (.tail _ (.tail _ (.tail _ (.tail _ (.tail _ (.head _)))))))) d7
        exact gi_val hk hI hs (.tail _ (.tail _ (.tail _ (.tail _ (.tail _ (.tail _ (.tail _ (.tail _ (.head _))))))))) (.bool true) _ hun ho rfl rfl (by simp [execOp, go_sem, tget p7]) (Below.refl _ _) rfl
    · intro listed a1 w1 hI hup
      have hTT := HTT.out
      subst hTT
      obtain ⟨bx, b1, b2, -, b4⟩ := hI.al (hup 8 (by decide))
      obtain ⟨c, ⟨gq, cq, rfl, hv⟩, hl2⟩ := b4 (hup 9 (by decide))
      have hasg : a1.eval (.tmp 16) = .bool true := hI.pt (10, 16, Is (.bool true)) (.tail _ (.tail _ (.tail _ (.tail _ (.tail _ (.tail _ (.tail _ (.tail _ (.head _))))))))) (hup 10 (by decide))
      have hbel := hI.bel
      obtain ⟨ff, rfl, hf⟩ := hI.off.forms
      have fA : ff 15 = .pointer (some ⟨bx, 0, none⟩) := (hf 15).trans b1
      have fB : ff 16 = .bool true := (hf 16).trans hasg
      clear hI
      simp only [List.foldl, Act.put, List.setIfInBounds_toArray, List.set, fA, fB]
      simp only [Exit.then]
      go_step
      go_meet
      exact ⟨bx, gq, cq, rfl, rfl, b2, Lib.hid hl2, Lib.hid hv, Lib.hid hbel⟩
  case rest =>
    obtain ⟨b12, g12, c12, rfl, rfl, -, HX12, HV12, HBe⟩ := hcut
    clear HTT HcE HoE
    replace HB := Lib.hid (HB.out.trans (HBe.out.mono HB.out.size))
    replace HV3 := Lib.hid (HV3.out.next HBe.out)
    replace HX3 := Lib.hid (HX3.out.next HBe.out)
    replace HV4 := Lib.hid (HV4.out.next HBe.out)
    replace HX4 := Lib.hid (HX4.out.next HBe.out)
    replace HV6 := Lib.hid (HV6.out.next HBe.out)
    replace HX6 := Lib.hid (HX6.out.next HBe.out)
    replace HV8 := Lib.hid (HV8.out.next HBe.out)
    replace HX8 := Lib.hid (HX8.out.next HBe.out)
    replace HV11 := Lib.hid (HV11.out.next HBe.out)
    replace HX11 := Lib.hid (HX11.out.next HBe.out)
    clear HBe
    clear HV3 HX3
    dsimp only [arr1, List.length_cons, List.length_nil, Nat.zero_add] at HX12
    have u4 := HX4.out.cell 2
    simp only [List.getElem?_toArray, List.getElem?_cons_zero, List.getElem?_cons_succ] at u4
    have u6 := HX6.out.cell 2
    simp only [List.getElem?_toArray, List.getElem?_cons_zero, List.getElem?_cons_succ] at u6
    have u8 := HX8.out.cell 2
    simp only [List.getElem?_toArray, List.getElem?_cons_zero, List.getElem?_cons_succ] at u8
    have u11 := HX11.out.cell 2
    simp only [List.getElem?_toArray, List.getElem?_cons_zero, List.getElem?_cons_succ] at u11
    have u12 := HX12.out.cell 2
    simp only [List.getElem?_toArray, List.getElem?_cons_zero, List.getElem?_cons_succ] at u12
    go_upto_region 13 with fail
    clear u4 u6 u8 u11 u12
    obtain ⟨TT, hTT⟩ : ∃ TT : List (Nat × Nat × (Value → World → Prop)), TT = [(0, 106, Is (.pointer (some ⟨b6, 2, none⟩))), (1, 107, Is (.slice (some ⟨g6, 0, none⟩) 1 c6)), (2, 108, Is (.pointer (some ⟨g6, 0, none⟩))), (3, 109, Is (.pointer (some ⟨g6, 1, none⟩))), (4, 110, Is (.agg #[.int .i64 ma, .int .i64 ea])), (5, 111, Is (.pointer (some ⟨b8, 2, none⟩))), (6, 112, Is (.slice (some ⟨g8, 0, none⟩) 1 c8)), (7, 113, Is (.pointer (some ⟨g8, 0, none⟩))), (8, 114, Is (.pointer (some ⟨g8, 1, none⟩))), (9, 115, Is (.agg #[.int .i64 mb, .int .i64 eb])), (10, 116, Is (.tuple #[.agg #[.int .i64 mc, .int .i64 ec], .bool true])), (11, 105, Is (.tuple #[.agg #[.int .i64 mc, .int .i64 ec], .bool true])), (12, 117, Is (.agg #[.int .i64 mc, .int .i64 ec])), (13, 118, Is (.bool true)), (16, 18, Is (.bool true))] := ⟨_, rfl⟩
    have hcE : ∀ args W, (callFunc 16 args).run Tryz.prog W = .ok (.enter 16 args) W := enters_of Tryz.func16 (by kernel_rfl) rfl
    have HcE := Lib.hid hcE
    have HTT := Lib.hid hTT
    clear hcE hTT
    go_cut [17, 18] from 183 (fun vA vB wy => ∃ bx : Nat, vA = .pointer (some ⟨bx, 0, none⟩) ∧ vB = .bool true ∧ wc.heap.size ≤ bx ∧ Hid (Lies wy bx 33 #[.int .i64 mc, .int .i64 ec]) ∧ Hid (Below wc.heap.size wc wy))
    case first =>
      refine wp_region_invB (by kernel_rfl) (by kernel_rfl) (fun a0 => 183 ≤ a0.tmps.size ∧ a0.eval (.tmp 9) = .pointer (some ⟨b6, 0, none⟩) ∧ a0.eval (.tmp 11) = .pointer (some ⟨b8, 0, none⟩)) (GI [106, 107, 108, 109, 110, 111, 112, 113, 114, 115, 116, 105, 117, 118, 17, 18] TT wc 14 17 15 33 #[.int .i64 0, .int .i64 0] (fun c _ => c = #[.int .i64 mc, .int .i64 ec])) ⟨by simp, rfl, rfl⟩ (GI.start _ _ (Below.refl _ _).drew) ?_ ?_
      · rintro a0 ⟨hs, h9, h11⟩ listed a1 w1 j o hsz hI hun ho hdeps
        have hTT := HTT.out
        subst hTT
        have hk : GOk [106, 107, 108, 109, 110, 111, 112, 113, 114, 115, 116, 105, 117, 118, 17, 18] [(0, 106, Is (.pointer (some ⟨b6, 2, none⟩))), (1, 107, Is (.slice (some ⟨g6, 0, none⟩) 1 c6)), (2, 108, Is (.pointer (some ⟨g6, 0, none⟩))), (3, 109, Is (.pointer (some ⟨g6, 1, none⟩))), (4, 110, Is (.agg #[.int .i64 ma, .int .i64 ea])), (5, 111, Is (.pointer (some ⟨b8, 2, none⟩))), (6, 112, Is (.slice (some ⟨g8, 0, none⟩) 1 c8)), (7, 113, Is (.pointer (some ⟨g8, 0, none⟩))), (8, 114, Is (.pointer (some ⟨g8, 1, none⟩))), (9, 115, Is (.agg #[.int .i64 mb, .int .i64 eb])), (10, 116, Is (.tuple #[.agg #[.int .i64 mc, .int .i64 ec], .bool true])), (11, 105, Is (.tuple #[.agg #[.int .i64 mc, .int .i64 ec], .bool true])), (12, 117, Is (.agg #[.int .i64 mc, .int .i64 ec])), (13, 118, Is (.bool true)), (16, 18, Is (.bool true))] 14 17 15 183 33 2 (fun c _ => c = #[.int .i64 mc, .int .i64 ec]) := ⟨rfl, by
          intro e he
          simp only [List.mem_cons, List.not_mem_nil, or_false] at he
          rcases he with rfl | rfl | rfl | rfl | rfl | rfl | rfl | rfl | rfl | rfl | rfl | rfl | rfl | rfl | rfl <;> exact last_is _ _ _
          , fun _ _ _ h _ => h, fun _ _ _ _ _ _ h _ _ => h⟩
        have hj := Up.of_false hun
        have hj12 : j < 17 := by rw [hsz] at hj; exact hj
        have e9 : a1.eval (.tmp 9) = .pointer (some ⟨b6, 0, none⟩) := (hI.off.eval (by decide)).trans h9
        have e11 : a1.eval (.tmp 11) = .pointer (some ⟨b8, 0, none⟩) := (hI.off.eval (by decide)).trans h11
        have m6 : w1.cell? ⟨b6, 2, none⟩ = some (.slice (some ⟨g6, 0, none⟩) 1 c6) := (HX6.out.next hI.bel).cell 2
        have n6 : w1.cell? ⟨g6, 1, none⟩ = some (.int .i64 ma) := (HV6.out.next hI.bel).cell 0 (Nat.zero_lt_succ _) 1 (by decide)
        have o6 : w1.cell? ⟨g6, 2, none⟩ = some (.int .i64 ea) := (HV6.out.next hI.bel).cell 0 (Nat.zero_lt_succ _) 2 (by decide)
        have m8 : w1.cell? ⟨b8, 2, none⟩ = some (.slice (some ⟨g8, 0, none⟩) 1 c8) := (HX8.out.next hI.bel).cell 2
        have n8 : w1.cell? ⟨g8, 1, none⟩ = some (.int .i64 mb) := (HV8.out.next hI.bel).cell 0 (Nat.zero_lt_succ _) 1 (by decide)
        have o8 : w1.cell? ⟨g8, 2, none⟩ = some (.int .i64 eb) := (HV8.out.next hI.bel).cell 0 (Nat.zero_lt_succ _) 2 (by decide)
        rcases (by omega : j = 0 ∨ j = 1 ∨ j = 2 ∨ j = 3 ∨ j = 4 ∨ j = 5 ∨ j = 6 ∨ j = 7 ∨ j = 8 ∨ j = 9 ∨ j = 10 ∨ j = 11 ∨ j = 12 ∨ j = 13 ∨ j = 14 ∨ j = 15 ∨ j = 16) with rfl | rfl | rfl | rfl | rfl | rfl | rfl | rfl | rfl | rfl | rfl | rfl | rfl | rfl | rfl | rfl | rfl
        · have ho2 := ho
          simp only [List.getElem?_toArray, List.getElem?_cons_zero, Option.some.injEq] at ho2
          subst ho2
          exact gi_val hk hI hs (.head _) (.pointer (some ⟨b6, 2, none⟩)) _ hun ho rfl rfl (by simp [execOp, go_sem, tget e9]) (Below.refl _ _) rfl
        · have ho2 := ho
          simp only [List.getElem?_toArray, List.getElem?_cons_zero, List.getElem?_cons_succ, Option.some.injEq] at ho2
          subst ho2
          have d0 : Up listed 0 := hdeps { on := 0, ground := .data } (by simp) rfl
          have p0 : a1.eval (.tmp 106) = .pointer (some ⟨b6, 2, none⟩) := hI.pt (0, 106, Is (.pointer (some ⟨b6, 2, none⟩))) (.head _) d0
          exact gi_val hk hI hs (.tail _ (.head _)) (.slice (some ⟨g6, 0, none⟩) 1 c6) _ hun ho rfl rfl (by simp [execOp, go_sem, tget p0, m6]) (Below.refl _ _) rfl
        · have ho2 := ho
          simp only [List.getElem?_toArray, List.getElem?_cons_zero, List.getElem?_cons_succ, Option.some.injEq] at ho2
          subst ho2
          have d1 : Up listed 1 := hdeps { on := 1, ground := .data } (by simp) rfl
          have p1 : a1.eval (.tmp 107) = .slice (some ⟨g6, 0, none⟩) 1 c6 := hI.pt (1, 107, Is (.slice (some ⟨g6, 0, none⟩) 1 c6)) (.tail _ (.head _)) d1
          exact gi_val hk hI hs (.tail _ (.tail _ (.head _))) (.pointer (some ⟨g6, 0, none⟩)) _ hun ho rfl rfl (by simp [execOp, go_sem, tget p1]) (Below.refl _ _) rfl
        · have ho2 := ho
          simp only [List.getElem?_toArray, List.getElem?_cons_zero, List.getElem?_cons_succ, Option.some.injEq] at ho2
          subst ho2
          have d2 : Up listed 2 := hdeps { on := 2, ground := .data } (by simp) rfl
          have p2 : a1.eval (.tmp 108) = .pointer (some ⟨g6, 0, none⟩) := hI.pt (2, 108, Is (.pointer (some ⟨g6, 0, none⟩))) (.tail _ (.tail _ (.head _))) d2
          exact gi_val hk hI hs (.tail _ (.tail _ (.tail _ (.head _)))) (.pointer (some ⟨g6, 1, none⟩)) _ hun ho rfl rfl (by simp [execOp, go_sem, tget p2]) (Below.refl _ _) rfl
        · have ho2 := ho
          simp only [List.getElem?_toArray, List.getElem?_cons_zero, List.getElem?_cons_succ, Option.some.injEq] at ho2
          subst ho2
          have d3 : Up listed 3 := hdeps { on := 3, ground := .data } (by simp) rfl
          have p3 : a1.eval (.tmp 109) = .pointer (some ⟨g6, 1, none⟩) := hI.pt (3, 109, Is (.pointer (some ⟨g6, 1, none⟩))) (.tail _ (.tail _ (.tail _ (.head _)))) d3
          exact gi_val hk hI hs (.tail _ (.tail _ (.tail _ (.tail _ (.head _))))) (.agg #[.int .i64 ma, .int .i64 ea]) _ hun ho rfl rfl (by simp [execOp, go_sem, tget p3, n6, o6]) (Below.refl _ _) rfl
        · have ho2 := ho
          simp only [List.getElem?_toArray, List.getElem?_cons_zero, List.getElem?_cons_succ, Option.some.injEq] at ho2
          subst ho2
          exact gi_val hk hI hs (.tail _ (.tail _ (.tail _ (.tail _ (.tail _ (.head _)))))) (.pointer (some ⟨b8, 2, none⟩)) _ hun ho rfl rfl (by simp [execOp, go_sem, tget e11]) (Below.refl _ _) rfl
        · have ho2 := ho
          simp only [List.getElem?_toArray, List.getElem?_cons_zero, List.getElem?_cons_succ, Option.some.injEq] at ho2
          subst ho2
          have d5 : Up listed 5 := hdeps { on := 5, ground := .data } (by simp) rfl
          have p5 : a1.eval (.tmp 111) = .pointer (some ⟨b8, 2, none⟩) := hI.pt (5, 111, Is (.pointer (some ⟨b8, 2, none⟩))) (.tail _ (.tail _ (.tail _ (.tail _ (.tail _ (.head _)))))) d5
          exact gi_val hk hI hs (.tail _ (.tail _ (.tail _ (.tail _ (.tail _ (.tail _ (.head _))))))) (.slice (some ⟨g8, 0, none⟩) 1 c8) _ hun ho rfl rfl (by simp [execOp, go_sem, tget p5, m8]) (Below.refl _ _) rfl
        · have ho2 := ho
          simp only [List.getElem?_toArray, List.getElem?_cons_zero, List.getElem?_cons_succ, Option.some.injEq] at ho2
          subst ho2
          have d6 : Up listed 6 := hdeps { on := 6, ground := .data } (by simp) rfl
          have p6 : a1.eval (.tmp 112) = .slice (some ⟨g8, 0, none⟩) 1 c8 := hI.pt (6, 112, Is (.slice (some ⟨g8, 0, none⟩) 1 c8)) (.tail _ (.tail _ (.tail _ (.tail _ (.tail _ (.tail _ (.head _))))))) d6
          exact gi_val hk hI hs (.tail _ (.tail _ (.tail _ (.tail _ (.tail _ (.tail _ (.tail _ (.head _)))))))) (.pointer (some ⟨g8, 0, none⟩)) _ hun ho rfl rfl (by simp [execOp, go_sem, tget p6]) (Below.refl _ _) rfl
        · have ho2 := ho
          simp only [List.getElem?_toArray, List.getElem?_cons_zero, List.getElem?_cons_succ, Option.some.injEq] at ho2
          subst ho2
          have d7 : Up listed 7 := hdeps { on := 7, ground := .data } (by simp) rfl
          have p7 : a1.eval (.tmp 113) = .pointer (some ⟨g8, 0, none⟩) := hI.pt (7, 113, Is (.pointer (some ⟨g8, 0, none⟩))) (.tail _ (.tail _ (.tail _ (.tail _ (.tail _ (.tail _ (.tail _ (.head _)))))))) d7
          exact gi_val hk hI hs (.tail _ (.tail _ (.tail _ (.tail _ (.tail _ (.tail _ (.tail _ (.tail _ (.head _))))))))) (.pointer (some ⟨g8, 1, none⟩)) _ hun ho rfl rfl (by simp [execOp, go_sem, tget p7]) (Below.refl _ _) rfl
        · have ho2 := ho
          simp only [List.getElem?_toArray, List.getElem?_cons_zero, List.getElem?_cons_succ, Option.some.injEq] at ho2
          subst ho2
          have d8 : Up listed 8 := hdeps { on := 8, ground := .data } (by simp) rfl
          have p8 : a1.eval (.tmp 114) = .pointer (some ⟨g8, 1, none⟩) := hI.pt (8, 114, Is (.pointer (some ⟨g8, 1, none⟩))) (.tail _ (.tail _ (.tail _ (.tail _ (.tail _ (.tail _ (.tail _ (.tail _ (.head _))))))))) d8
          exact gi_val hk hI hs (.tail _ (.tail _ (.tail _ (.tail _ (.tail _ (.tail _ (.tail _ (.tail _ (.tail _ (.head _)))))))))) (.agg #[.int .i64 mb, .int .i64 eb]) _ hun ho rfl rfl (by simp [execOp, go_sem, tget p8, n8, o8]) (Below.refl _ _) rfl
        · have ho2 := ho
          simp only [List.getElem?_toArray, List.getElem?_cons_zero, List.getElem?_cons_succ, Option.some.injEq] at ho2
          subst ho2
          have d4 : Up listed 4 := hdeps { on := 4, ground := .data } (by simp) rfl
          have p4 : a1.eval (.tmp 110) = .agg #[.int .i64 ma, .int .i64 ea] := hI.pt (4, 110, Is (.agg #[.int .i64 ma, .int .i64 ea])) (.tail _ (.tail _ (.tail _ (.tail _ (.head _))))) d4
          have d9 : Up listed 9 := hdeps { on := 9, ground := .data } (by simp) rfl
          have p9 : a1.eval (.tmp 115) = .agg #[.int .i64 mb, .int .i64 eb] := hI.pt (9, 115, Is (.agg #[.int .i64 mb, .int .i64 eb])) (.tail _ (.tail _ (.tail _ (.tail _ (.tail _ (.tail _ (.tail _ (.tail _ (.tail _ (.head _)))))))))) d9
          refine gi_call hk hI hs (.tail _ (.tail _ (.tail _ (.tail _ (.tail _ (.tail _ (.tail _ (.tail _ (.tail _ (.tail _ (.head _))))))))))) 16 #[.agg #[.int .i64 ma, .int .i64 ea], .agg #[.int .i64 mb, .int .i64 eb]] hun ho rfl rfl (by simp [go_sem, tget p4, tget p9, HcE.out]) ?_
          refine (HAdd.out w1).mono ?_
          rintro e w2 ⟨rfl, hb⟩
          exact ⟨_, rfl, hb, rfl⟩
        · have ho2 := ho
          simp only [List.getElem?_toArray, List.getElem?_cons_zero, List.getElem?_cons_succ, Option.some.injEq] at ho2
          subst ho2
          have d10 : Up listed 10 := hdeps { on := 10, ground := .data } (by simp) rfl
          have p10 : a1.eval (.tmp 116) = .tuple #[.agg #[.int .i64 mc, .int .i64 ec], .bool true] := hI.pt (10, 116, Is (.tuple #[.agg #[.int .i64 mc, .int .i64 ec], .bool true])) (.tail _ (.tail _ (.tail _ (.tail _ (.tail _ (.tail _ (.tail _ (.tail _ (.tail _ (.tail _ (.head _))))))))))) d10
          exact gi_val hk hI hs (.tail _ (.tail _ (.tail _ (.tail _ (.tail _ (.tail _ (.tail _ (.tail _ (.tail _ (.tail _ (.tail _ (.head _)))))))))))) (.tuple #[.agg #[.int .i64 mc, .int .i64 ec], .bool true]) _ hun ho rfl rfl (by simp [execOp, go_sem, tget p10]) (Below.refl _ _) rfl
        · have ho2 := ho
          simp only [List.getElem?_toArray, List.getElem?_cons_zero, List.getElem?_cons_succ, Option.some.injEq] at ho2
          subst ho2
          have d11 : Up listed 11 := hdeps { on := 11, ground := .data } (by simp) rfl
          have p11 : a1.eval (.tmp 105) = .tuple #[.agg #[.int .i64 mc, .int .i64 ec], .bool true] := hI.pt (11, 105, Is (.tuple #[.agg #[.int .i64 mc, .int .i64 ec], .bool true])) (.tail _ (.tail _ (.tail _ (.tail _ (.tail _ (.tail _ (.tail _ (.tail _ (.tail _ (.tail _ (.tail _ (.head _)))))))))))) d11
          exact gi_val hk hI hs (.tail _ (.tail _ (.tail _ (.tail _ (.tail _ (.tail _ (.tail _ (.tail _ (.tail _ (.tail _ (.tail _ (.tail _ (.head _))))))))))))) (.agg #[.int .i64 mc, .int .i64 ec]) _ hun ho rfl rfl (by simp [execOp, go_sem, tget p11]) (Below.refl _ _) rfl
        · have ho2 := ho
          simp only [List.getElem?_toArray, List.getElem?_cons_zero, List.getElem?_cons_succ, Option.some.injEq] at ho2
          subst ho2
          have d11 : Up listed 11 := hdeps { on := 11, ground := .data } (by simp) rfl
          have p11 : a1.eval (.tmp 105) = .tuple #[.agg #[.int .i64 mc, .int .i64 ec], .bool true] := hI.pt (11, 105, Is (.tuple #[.agg #[.int .i64 mc, .int .i64 ec], .bool true])) (.tail _ (.tail _ (.tail _ (.tail _ (.tail _ (.tail _ (.tail _ (.tail _ (.tail _ (.tail _ (.tail _ (.head _)))))))))))) d11
          exact gi_val hk hI hs (.tail _ (.tail _ (.tail _ (.tail _ (.tail _ (.tail _ (.tail _ (.tail _ (.tail _ (.tail _ (.tail _ (.tail _ (.tail _ (.head _)))))))))))))) (.bool true) _ hun ho rfl rfl (by simp [execOp, go_sem, tget p11]) (Below.refl _ _) rfl
        · have ho2 := ho
          simp only [List.getElem?_toArray, List.getElem?_cons_zero, List.getElem?_cons_succ, Option.some.injEq] at ho2
          subst ho2
          exact gi_alloc hk hI hs hun ho rfl rfl (fun W => by simp [execOp, go_sem])
        · have ho2 := ho
          simp only [List.getElem?_toArray, List.getElem?_cons_zero, List.getElem?_cons_succ, Option.some.injEq] at ho2
          subst ho2
          have d14 : Up listed 14 := hdeps { on := 14, ground := .data } (by simp) rfl
          have d12 : Up listed 12 := hdeps { on := 12, ground := .data } (by simp) rfl
          have p12 : a1.eval (.tmp 117) = .agg #[.int .i64 mc, .int .i64 ec] := hI.pt (12, 117, Is (.agg #[.int .i64 mc, .int .i64 ec])) (.tail _ (.tail _ (.tail _ (.tail _ (.tail _ (.tail _ (.tail _ (.tail _ (.tail _ (.tail _ (.tail _ (.tail _ (.head _))))))))))))) d12
          exact gi_store hk hI hun ho rfl rfl d14 [.int .i64 mc, .int .i64 ec] rfl rfl rfl (fun bx g1 g2 => by
            have c0 := g2.cell 0
            have k0 := g2.frozen 0
            have c1 := g2.cell 1
            have k1 := g2.frozen 1
            simp at c0 c1
            simp [execOp, go_sem, tget p12, tget g1, putL, c0, k0, c1, k1])
        · have ho2 := ho
          simp only [List.getElem?_toArray, List.getElem?_cons_zero, List.getElem?_cons_succ, Option.some.injEq] at ho2
          subst ho2
          have d13 : Up listed 13 := hdeps { on := 13, ground := .data } (by simp) rfl
          have p13 : a1.eval (.tmp 118) = .bool true := hI.pt (13, 118, Is (.bool true)) (.tail _ (.tail _ (.tail _ (.tail _ (.tail _ (.tail _ (.tail _ (.tail _ (.tail _ (.tail _ (.tail _ (.tail _ (.tail _ (.head _)))))))))))))) d13
          exact gi_val hk hI hs (.tail _ (.tail _ (.tail _ (.tail _ (.tail _ (.tail _ (.tail _ (.tail _ (.tail _ (.tail _ (.tail _ (.tail _ (.tail _ (.tail _ (.head _))))))))))))))) (.bool true) _ hun ho rfl rfl (by simp [execOp, go_sem, tget p13]) (Below.refl _ _) rfl
      · intro listed a1 w1 hI hup
        have hTT := HTT.out
        subst hTT
        obtain ⟨bx, b1, b2, -, b4⟩ := hI.al (hup 14 (by decide))
        obtain ⟨c, rfl, hl2⟩ := b4 (hup 15 (by decide))
        have hasg : a1.eval (.tmp 18) = .bool true := hI.pt (16, 18, Is (.bool true)) (.tail _ (.tail _ (.tail _ (.tail _ (.tail _ (.tail _ (.tail _ (.tail _ (.tail _ (.tail _ (.tail _ (.tail _ (.tail _ (.tail _ (.head _))))))))))))))) (hup 16 (by decide))
        have hbel := hI.bel
        obtain ⟨ff, rfl, hf⟩ := hI.off.forms
        have fA : ff 17 = .pointer (some ⟨bx, 0, none⟩) := (hf 17).trans b1
        have fB : ff 18 = .bool true := (hf 18).trans hasg
        clear hI
        simp only [List.foldl, Act.put, List.setIfInBounds_toArray, List.set, fA, fB]
        simp only [Exit.then]
        go_step
        go_meet
        exact ⟨bx, rfl, rfl, b2, Lib.hid hl2, Lib.hid hbel⟩
    case rest =>
      obtain ⟨b13, rfl, rfl, -, HX13, HBe⟩ := hcut
      clear HTT HcE
      replace HB := Lib.hid (HB.out.trans (HBe.out.mono HB.out.size))
      replace HV4 := Lib.hid (HV4.out.next HBe.out)
      replace HX4 := Lib.hid (HX4.out.next HBe.out)
      replace HV6 := Lib.hid (HV6.out.next HBe.out)
      replace HX6 := Lib.hid (HX6.out.next HBe.out)
      replace HV8 := Lib.hid (HV8.out.next HBe.out)
      replace HX8 := Lib.hid (HX8.out.next HBe.out)
      replace HV11 := Lib.hid (HV11.out.next HBe.out)
      replace HX11 := Lib.hid (HX11.out.next HBe.out)
      replace HX12 := Lib.hid (HX12.out.next HBe.out)
      replace HV12 := Lib.hid (HV12.out.next HBe.out)
      clear HBe
      clear HV6 HX6 HV8 HX8
      have u12 := HX12.out.cell 2
      simp only [List.getElem?_toArray, List.getElem?_cons_zero, List.getElem?_cons_succ] at u12
      have y1 : wc.cell? ⟨g12, 1, none⟩ = some (.int .i64 mf) := HV12.out.cell 0 (Nat.zero_lt_succ _) 1 (by decide)
      have y2 : wc.cell? ⟨g12, 2, none⟩ = some (.int .i64 ef) := HV12.out.cell 0 (Nat.zero_lt_succ _) 2 (by decide)
      go_wp2_with fail
      refine (HInt.out _).mono ?_
      rintro x we ⟨rfl, hb⟩
      replace HB := Lib.hid (HB.out.trans (hb.mono HB.out.size))
      replace HV4 := Lib.hid (HV4.out.next hb)
      replace HX4 := Lib.hid (HX4.out.next hb)
      replace HV11 := Lib.hid (HV11.out.next hb)
      replace HX11 := Lib.hid (HX11.out.next hb)
      replace HX12 := Lib.hid (HX12.out.next hb)
      replace HV12 := Lib.hid (HV12.out.next hb)
      replace HX13 := Lib.hid (HX13.out.next hb)
      clear hb y1 y2 u12 HInt
      clear HX12 HV12
      have u4 := HX4.out.cell 2
      simp only [List.getElem?_toArray, List.getElem?_cons_zero, List.getElem?_cons_succ] at u4
      have u11 := HX11.out.cell 2
      simp only [List.getElem?_toArray, List.getElem?_cons_zero, List.getElem?_cons_succ] at u11
      have y1 : we.cell? ⟨g4, 1, none⟩ = some (.int .i64 mc) := HV4.out.cell 0 (Nat.zero_lt_succ _) 1 (by decide)
      have y2 : we.cell? ⟨g4, 2, none⟩ = some (.int .i64 ec) := HV4.out.cell 0 (Nat.zero_lt_succ _) 2 (by decide)
      have y3 : we.cell? ⟨g11, 4, none⟩ = some (.bool (a == b)) := HV11.out.cell 0 (Nat.zero_lt_succ _) 4 (by decide)
      have z1 : we.cell? ⟨b13, 0, none⟩ = some (.int .i64 mc) := HX13.out.cell 0
      have z2 : we.cell? ⟨b13, 1, none⟩ = some (.int .i64 ec) := HX13.out.cell 1
      go_upto_region 15 with fail
      go_quiet (fail)
      have hq : (List.take b.length (List.drop i (a ++ b)) == b) = true := by rw [HIn.out]; exact beq_self_eq_true _
      all_goals go_wp2_with fail
      all_goals go_ret
      all_goals first | exact ⟨rfl, HB.out⟩ | exact ⟨rfl, below_drewN HB.out _⟩ | (go_split_ands; exact ⟨rfl, HB.out.trans (Below.mono (by assumption) HB.out.size)⟩)
/-- a count's number: its digits and its power -/
def cM (n : Nat) : Int := (pCount n).mant
def cE (n : Nat) : Int := (pCount n).exp
theorem count_nV (n : Nat) : pCount n = nV (cM n) (cE n) := by
  unfold cM cE pCount
  split <;> rfl
theorem count_fin : ∀ n : Fin 122, pRight (cM n.val) (cE n.val) = true ∧ 0 ≤ cE n.val ∧ cE n.val ≤ 2 ∧ 0 ≤ cM n.val ∧ cM n.val ≤ 121 ∧ cM n.val * 10 ^ (cE n.val).toNat = (n.val : Int) := by decide +kernel
theorem count_add : ∀ a b : Fin 61, dlen (gAdd (cM a.val) (cE a.val) (cM b.val) (cE b.val)).2 ≤ 1000 ∧ pNear (gAdd (cM a.val) (cE a.val) (cM b.val) (cE b.val)).1 (gAdd (cM a.val) (cE a.val) (cM b.val) (cE b.val)).2 (minA (cE a.val) (cE b.val)) = some (cM (a.val + b.val), cE (a.val + b.val)) := by decide +kernel
theorem index_app (a b : Bs) : ∃ i : Nat, Lib.index (a ++ b) b = (i : Int) ∧ i ≤ a.length ∧ ((a ++ b).drop i).take b.length = b := by
  have ho : Lib.occAt (a ++ b) b a.length = true := occ_app.2 ⟨[], by simp⟩
  rcases Lib.index_spec (a ++ b) b with ⟨_, h⟩ | ⟨i, hi, h1, h2, hno⟩
  · have := h a.length (by simp)
    rw [ho] at this
    cases this
  · have hia : i ≤ a.length := by
      rcases Nat.lt_or_ge a.length i with h | h
      · have := hno _ h
        rw [ho] at this
        cases this
      · exact h
    refine ⟨i, hi, hia, ?_⟩
    obtain ⟨r, hr⟩ := occ_app.1 h2
    rw [hr, List.take_left]
theorem lens_any (a b : Bs) (w : World) (hP : PowTab w) (hM : MaxVar w) :
    Calls Tryz.prog 6 #[.string ⟨a.toArray⟩, .string ⟨b.toArray⟩] w fun e w' => e = .returned (.bool true) ∧ Below w.heap.size w w' := by
  by_cases hl : 60 < a.length ∨ 60 < b.length
  · exact lens_long a b w hP hM hl
  · have hla : a.length ≤ 60 := by omega
    have hlb : b.length ≤ 60 := by omega
    obtain ⟨i, hi1, hi2, hi3⟩ := index_app a b
    have hpf : pFind b (a ++ b) = nV (cM (1 + i)) (cE (1 + i)) := by
      unfold pFind
      rw [hi1, if_neg (by omega), Int.toNat_natCast, count_nV]
    obtain ⟨p1, p2, p3, p4, p5, p6⟩ := count_fin ⟨1 + i, by omega⟩
    obtain ⟨s1, s2⟩ := count_add ⟨a.length, by omega⟩ ⟨b.length, by omega⟩
    refine lens_walk a b i (cM (a ++ b).length) (cE (a ++ b).length) (cM a.length) (cE a.length) (cM b.length) (cE b.length) (cM (1 + i)) (cE (1 + i)) w hP hM hla hlb (count_nV _) (count_nV _) (count_nV _) ?_ ?_ ?_ (by omega) hi3
    · intro W g p m h
      have := call_find b (a ++ b) (by omega) (by rw [List.length_append]; omega) g 2 W p m h
      rw [hpf] at this
      exact this
    · intro W
      rw [List.length_append]
      exact radd_any _ _ _ _ _ _ W (count_fin ⟨a.length, by omega⟩).1 (count_fin ⟨b.length, by omega⟩).1 s1 s2
    · intro W
      refine (rint_any (cM (1 + i)) (cE (1 + i)) (i + 1) W p1 p2 p3 p4 p5 (p6.trans (by show ((1 + i : Nat) : Int) = _; omega))).mono ?_
      rintro x w' ⟨rfl, hb⟩
      exact ⟨by rw [Int.natCast_add]; rfl, hb⟩
end Go.Proofs.YtpdaloohgfnbhaaGreatDoor
