/-
  The walk of law12.FtextSplits.
-/
import Derived.Test.YtpdaloohgfnbhaaGreatDoorFt23
namespace Go.Proofs.YtpdaloohgfnbhaaGreatDoor
open Go.RowKit

theorem bad09_s (W : World) : Calls Tryz.prog 13 #[.int .i64 2] W fun x w' => ∃ g c, x = .returned (.agg #[.int .i64 1, .int .i64 1, .slice (some ⟨g, 0, none⟩) 1 c]) ∧ VP w' g [vBad 2] ∧ Below W.heap.size W w' := by
  refine (bad09_any 2 W).mono ?_
  rintro x w' ⟨v, rfl, ⟨g, c, rfl, h⟩, hb⟩
  exact ⟨g, c, rfl, h, hb⟩
set_option maxRecDepth 100000 in
set_option maxHeartbeats 6400000 in
theorem splits_none (t : Bs) (w : World) (hP : PowTab w) (hM : MaxVar w) (ht : t.length ≤ 100) :
    Calls Tryz.prog 4 #[.string ⟨t.toArray⟩, .string ⟨([] : Bs).toArray⟩] w fun e w' => e = .returned (.bool true) ∧ Below w.heap.size w w' := by
  have hti : (t.length : Int) ≤ 100 := by omega
  have HP := Lib.hid (fun W (h : Below w.heap.size w W) => hP.next h)
  have HM := Lib.hid (fun W (h : Below w.heap.size w W) => hM.next h)
  have HB := Lib.hid (Below.refl w.heap.size w)
  clear hP hM
  go_enter Tryz.func4, Tryz.ntmps4
  go_wp2_with fail
  refine (awake12_any _ (HP.out _ (Below.refl _ _)) (HM.out _ (Below.refl _ _))).mono ?_
  rintro x w0 ⟨rfl, hb⟩
  replace HB := Lib.hid (HB.out.trans (hb.mono HB.out.size))
  clear hb
  go_upto_region 5 with fail
  go_wp2_with fail
  refine (one12_any t _).mono ?_
  rintro x w1 ⟨v, rfl, ⟨g1, c1, rfl, hv⟩, hb⟩
  replace HB := Lib.hid (HB.out.trans (hb.mono HB.out.size))
  have HV1 := Lib.hid hv
  clear hb hv
  dsimp only [arr1, List.length_cons, List.length_nil, Nat.zero_add, List.map_cons, List.map_nil]
  go_wp2_with fail
  refine (one12_any [] _).mono ?_
  rintro x w2 ⟨v, rfl, ⟨g2, c2, rfl, hv⟩, hb⟩
  replace HB := Lib.hid (HB.out.trans (hb.mono HB.out.size))
  replace HV1 := Lib.hid (HV1.out.next hb)
  have HV2 := Lib.hid hv
  clear hb hv
  dsimp only [arr1, List.length_cons, List.length_nil, Nat.zero_add, List.map_cons, List.map_nil]
  have hA := args_two (a := arr1 (tV t)) (b := arr1 (tV [])) (c1 := c1) (c2 := c2) HV1.out HV2.out 25
  have HA := Lib.hid hA
  have HBa := Lib.hid (HB.out.alloc HB.out.size (.cells #[.int .i64 (arr1 (tV t)).r, .int .i64 (arr1 (tV t)).c, .slice (some ⟨g1, 0, none⟩) (arr1 (tV t)).vs.length c1, .int .i64 (arr1 (tV [])).r, .int .i64 (arr1 (tV [])).c, .slice (some ⟨g2, 0, none⟩) (arr1 (tV [])).vs.length c2] 25))
  have hbA : Below w2.heap.size w2 (w2.alloc (.cells #[.int .i64 (arr1 (tV t)).r, .int .i64 (arr1 (tV t)).c, .slice (some ⟨g1, 0, none⟩) (arr1 (tV t)).vs.length c1, .int .i64 (arr1 (tV [])).r, .int .i64 (arr1 (tV [])).c, .slice (some ⟨g2, 0, none⟩) (arr1 (tV [])).vs.length c2] 25)) := (Below.refl _ _).alloc (Nat.le_refl _) _
  have CC := Lib.hid (call_textsplit0 t (by omega) _ 2 _ (HP.out _ HBa.out) HA.out)
  clear hA HA HBa
  dsimp only [arr1, List.length_cons, List.length_nil, Nat.zero_add, List.map_cons, List.map_nil] at CC hbA ⊢
  have HbA := Lib.hid hbA
  clear hbA
  go_wp2_with fail
  refine CC.out.mono ?_
  rintro x w3 ⟨v, rfl, ⟨g3, c3, rfl, hv⟩, hb⟩
  have hb2 := HbA.out.trans (hb.mono HbA.out.size)
  replace HB := Lib.hid (HB.out.trans (hb2.mono HB.out.size))
  replace HV1 := Lib.hid (HV1.out.next hb2)
  replace HV2 := Lib.hid (HV2.out.next hb2)
  have HV3 := Lib.hid hv
  clear hb hb2 hv CC HbA
  dsimp only [arr1, List.length_cons, List.length_nil, Nat.zero_add, List.map_cons, List.map_nil]
  go_upto_region 7 with fail
  have hb2 : Below w3.heap.size w3 (w3.alloc (.cells #[.int .i64 1, .int .i64 1, .slice (some ⟨g3, 0, none⟩) 1 c3] 25)) := (Below.refl _ _).alloc (Nat.le_refl _) _
  replace HB := Lib.hid (HB.out.trans (hb2.mono HB.out.size))
  replace HV1 := Lib.hid (HV1.out.next hb2)
  replace HV2 := Lib.hid (HV2.out.next hb2)
  replace HV3 := Lib.hid (HV3.out.next hb2)
  have HX3 := Lib.hid (Lies.new w3 25 #[.int .i64 1, .int .i64 1, .slice (some ⟨g3, 0, none⟩) 1 c3])
  clear hb2
  generalize w3.alloc (.cells #[.int .i64 1, .int .i64 1, .slice (some ⟨g3, 0, none⟩) 1 c3] 25) = W3 at *
  generalize w3.heap.size = b3 at *
  have CO := Lib.hid (fun W => bad09_s W)
  have CS := Lib.hid (fun W g1 c1 g2 c2 h1 h2 => rsame09_s (vBad 2) g1 c1 g2 c2 W h1 h2)
  have hx3 := HX3.out.lt
  have hv3 := HV3.out.lt
  have x3_0 := HX3.out.cell 0
  have x3_1 := HX3.out.cell 1
  have x3_2 := HX3.out.cell 2
  simp only [List.getElem?_toArray, List.getElem?_cons_zero, List.getElem?_cons_succ] at x3_0 x3_1 x3_2
  have HSn : Hid (∀ wa, Below W3.heap.size W3 wa → wa.cell? ⟨b3, 0, none⟩ = some (.int .i64 1) ∧ wa.cell? ⟨b3, 1, none⟩ = some (.int .i64 1) ∧ wa.cell? ⟨b3, 2, none⟩ = some (.slice (some ⟨g3, 0, none⟩) 1 c3) ∧ Below W3.heap.size W3 wa) := Lib.hid (fun wa h => ⟨(h.cell (p := ⟨b3, 0, none⟩) hx3).trans x3_0, (h.cell (p := ⟨b3, 1, none⟩) hx3).trans x3_1, (h.cell (p := ⟨b3, 2, none⟩) hx3).trans x3_2, h⟩)
  have HSD : Hid (W3.drew.cell? ⟨b3, 0, none⟩ = some (.int .i64 1) ∧ W3.drew.cell? ⟨b3, 1, none⟩ = some (.int .i64 1) ∧ W3.drew.cell? ⟨b3, 2, none⟩ = some (.slice (some ⟨g3, 0, none⟩) 1 c3) ∧ Below W3.heap.size W3 W3.drew) := Lib.hid ⟨x3_0, x3_1, x3_2, (Below.refl _ _).drew⟩
  have HF3 := Lib.hid (fun wa (h : Below W3.heap.size W3 wa) => HV3.out.next h)
  clear hv3 hx3 x3_0 x3_1 x3_2
  have HBx : Hid (Below W3.heap.size W3 W3.drew) := Lib.hid (Below.refl _ _).drew
  go_region_held3 (fun w' => w'.cell? ⟨b3, 0, none⟩ = some (.int .i64 1) ∧ w'.cell? ⟨b3, 1, none⟩ = some (.int .i64 1) ∧ w'.cell? ⟨b3, 2, none⟩ = some (.slice (some ⟨g3, 0, none⟩) 1 c3) ∧ Below W3.heap.size W3 w')
    (first | exact HSD.out | exact HSn.out _ (Below.refl _ _) | exact HSn.out _ (Below.refl _ _).drew | exact HSn.out _ (Below.trans (Below.refl _ _).drew hb) | (go_split_ands; exact HSn.out _ (Below.trans (by assumption) (Below.mono hb (Below.size (by assumption))))))
    (first
      | (go_at_call 13; (with_reducible refine (CO.out _).mono ?_); rintro e wx ⟨gd, cd, rfl, hvd, hb⟩; have HBx : Hid (Below W3.heap.size W3 wx) := Lib.hid (by first | exact Below.trans (Below.refl _ _).drew hb | (go_split_ands; exact Below.trans (by assumption) (Below.mono hb (Below.size (by assumption))))); have HVd := Lib.hid hvd)
      | (go_at_call 12; (with_reducible refine (CS.out _ _ _ _ _ (HF3.out _ HBx.out) HVd.out).mono ?_); rintro e wx ⟨rfl, hb⟩))
  all_goals go_wp2_with fail
  all_goals go_ret
  all_goals first | exact ⟨rfl, HB.out.trans (Below.mono (by assumption) HB.out.size)⟩ | (go_split_ands; exact ⟨rfl, HB.out.trans (Below.mono (by assumption) HB.out.size)⟩)
set_option maxRecDepth 100000 in
set_option maxHeartbeats 6400000 in
theorem splits_walk (t sep : Bs) (vs : List Val) (w : World) (hP : PowTab w) (hM : MaxVar w) (ht : t.length ≤ 100) (hs : sep.length ≤ 100) (h0 : sep ≠ []) (hlen : vs.length ≤ 101)
    (hK : ∀ k (h : k < vs.length), ∃ p : Bs, vs[k] = tV p ∧ p.length ≤ 1000 ∧ Lib.index p sep = -1)
    (hTS : ∀ W b cap, PowTab W → MaxVar W → Args W b [arr1 (tV t), arr1 (tV sep)] → Calls Tryz.prog 9 #[.string ⟨#[84, 69, 88, 84, 83, 80, 76, 73, 84]⟩, .slice (some ⟨b, 0, none⟩) 2 cap] W (CallPost ⟨1, (vs.length : Int), vs⟩ W))
    (hTJ : ∀ W b, PowTab W → Args W b [arr1 (tV sep), arr1 (tV [70, 65, 76, 83, 69]), ⟨1, (vs.length : Int), vs⟩] → Calls Tryz.prog 9 #[.string ⟨#[84, 69, 88, 84, 74, 79, 73, 78]⟩, .slice (some ⟨b, 0, none⟩) 3 3] W (CallPost (arr1 (tV t)) W)) :
    Calls Tryz.prog 4 #[.string ⟨t.toArray⟩, .string ⟨sep.toArray⟩] w fun e w' => e = .returned (.bool true) ∧ Below w.heap.size w w' := by
  have hsp : sep.isEmpty = false := by cases sep with | nil => exact absurd rfl h0 | cons => rfl
  have hti : (t.length : Int) ≤ 100 := by omega
  have hsi : (sep.length : Int) ≤ 100 := by omega
  have HK := Lib.hid hK
  have HTS := Lib.hid hTS
  have HTJ := Lib.hid hTJ
  clear hK hTS hTJ h0
  have HP := Lib.hid (fun W (h : Below w.heap.size w W) => hP.next h)
  have HM := Lib.hid (fun W (h : Below w.heap.size w W) => hM.next h)
  have HB := Lib.hid (Below.refl w.heap.size w)
  clear hP hM
  go_enter Tryz.func4, Tryz.ntmps4
  go_wp2_with fail
  refine (awake12_any _ (HP.out _ (Below.refl _ _)) (HM.out _ (Below.refl _ _))).mono ?_
  rintro x w0 ⟨rfl, hb⟩
  replace HB := Lib.hid (HB.out.trans (hb.mono HB.out.size))
  clear hb
  go_upto_region 5 with fail
  go_wp2_with fail
  refine (one12_any t _).mono ?_
  rintro x w1 ⟨v, rfl, ⟨g1, c1, rfl, hv⟩, hb⟩
  replace HB := Lib.hid (HB.out.trans (hb.mono HB.out.size))
  have HV1 := Lib.hid hv
  clear hb hv
  dsimp only [arr1, List.length_cons, List.length_nil, Nat.zero_add, List.map_cons, List.map_nil]
  go_wp2_with fail
  refine (one12_any sep _).mono ?_
  rintro x w2 ⟨v, rfl, ⟨g2, c2, rfl, hv⟩, hb⟩
  replace HB := Lib.hid (HB.out.trans (hb.mono HB.out.size))
  replace HV1 := Lib.hid (HV1.out.next hb)
  have HV2 := Lib.hid hv
  clear hb hv
  dsimp only [arr1, List.length_cons, List.length_nil, Nat.zero_add, List.map_cons, List.map_nil]
  have hA := args_two (a := arr1 (tV t)) (b := arr1 (tV sep)) (c1 := c1) (c2 := c2) HV1.out HV2.out 25
  have HA := Lib.hid hA
  have HBa := Lib.hid (HB.out.alloc HB.out.size (.cells #[.int .i64 (arr1 (tV t)).r, .int .i64 (arr1 (tV t)).c, .slice (some ⟨g1, 0, none⟩) (arr1 (tV t)).vs.length c1, .int .i64 (arr1 (tV sep)).r, .int .i64 (arr1 (tV sep)).c, .slice (some ⟨g2, 0, none⟩) (arr1 (tV sep)).vs.length c2] 25))
  have hbA : Below w2.heap.size w2 (w2.alloc (.cells #[.int .i64 (arr1 (tV t)).r, .int .i64 (arr1 (tV t)).c, .slice (some ⟨g1, 0, none⟩) (arr1 (tV t)).vs.length c1, .int .i64 (arr1 (tV sep)).r, .int .i64 (arr1 (tV sep)).c, .slice (some ⟨g2, 0, none⟩) (arr1 (tV sep)).vs.length c2] 25)) := (Below.refl _ _).alloc (Nat.le_refl _) _
  have CC := Lib.hid (HTS.out _ _ 2 (HP.out _ HBa.out) (HM.out _ HBa.out) HA.out)
  clear hA HA HBa
  dsimp only [arr1, List.length_cons, List.length_nil, Nat.zero_add, List.map_cons, List.map_nil] at CC hbA ⊢
  have HbA := Lib.hid hbA
  clear hbA
  go_wp2_with fail
  refine CC.out.mono ?_
  rintro x w3 ⟨v, rfl, ⟨g3, c3, rfl, hv⟩, hb⟩
  have hb2 := HbA.out.trans (hb.mono HbA.out.size)
  replace HB := Lib.hid (HB.out.trans (hb2.mono HB.out.size))
  replace HV1 := Lib.hid (HV1.out.next hb2)
  replace HV2 := Lib.hid (HV2.out.next hb2)
  have HV3 := Lib.hid hv
  clear hb hb2 hv CC HbA
  dsimp only [arr1, List.length_cons, List.length_nil, Nat.zero_add, List.map_cons, List.map_nil]
  go_upto_region 6 with fail
  have hb2 : Below w3.heap.size w3 (w3.alloc (.cells #[.int .i64 1, .int .i64 (vs.length : Int), .slice (some ⟨g3, 0, none⟩) vs.length c3] 25)) := (Below.refl _ _).alloc (Nat.le_refl _) _
  replace HB := Lib.hid (HB.out.trans (hb2.mono HB.out.size))
  replace HV1 := Lib.hid (HV1.out.next hb2)
  replace HV2 := Lib.hid (HV2.out.next hb2)
  replace HV3 := Lib.hid (HV3.out.next hb2)
  have HX3 := Lib.hid (Lies.new w3 25 #[.int .i64 1, .int .i64 (vs.length : Int), .slice (some ⟨g3, 0, none⟩) vs.length c3])
  clear hb2
  generalize w3.alloc (.cells #[.int .i64 1, .int .i64 (vs.length : Int), .slice (some ⟨g3, 0, none⟩) vs.length c3] 25) = W3 at *
  generalize w3.heap.size = b3 at *
  go_upto_region 9 with fail
  go_loopw [7] (fun v7 wx => ∃ k : Nat, v7 = .int .i64 (k : Int) ∧ k ≤ vs.length ∧ Hid (wx = W3)) (fun v7 _ => vs.length - (intOf v7).toNat)
  case atStart => exact ⟨0, rfl, Nat.zero_le _, Lib.hid rfl⟩
  case round =>
    obtain ⟨k, rfl, hk, hw⟩ := hrel
    obtain rfl : wr = W3 := hw.out
    clear hw
    have x0 := HX3.out.cell 0
    have x1 := HX3.out.cell 1
    have x2 := HX3.out.cell 2
    simp only [List.getElem?_toArray, List.getElem?_cons_zero, List.getElem?_cons_succ] at x0 x1 x2
    have hk200 : k ≤ 101 := Nat.le_trans hk hlen
    by_cases hlt : k < vs.length
    · obtain ⟨p, hp, hpl, hpi⟩ := HK.out k hlt
      have y0 : wr.cell? ⟨g3, k * 6, none⟩ = some (.int .i64 2) := (HV3.out.cell k hlt 0 (by decide)).trans (by rw [hp]; rfl)
      have y1 : wr.cell? ⟨g3, k * 6 + 1, none⟩ = some (.int .i64 0) := (HV3.out.cell k hlt 1 (by decide)).trans (by rw [hp]; rfl)
      have y2 : wr.cell? ⟨g3, k * 6 + 2, none⟩ = some (.int .i64 0) := (HV3.out.cell k hlt 2 (by decide)).trans (by rw [hp]; rfl)
      have y3 : wr.cell? ⟨g3, k * 6 + 3, none⟩ = some (.string ⟨p.toArray⟩) := (HV3.out.cell k hlt 3 (by decide)).trans (by rw [hp]; rfl)
      have y4 : wr.cell? ⟨g3, k * 6 + 4, none⟩ = some (.bool false) := (HV3.out.cell k hlt 4 (by decide)).trans (by rw [hp]; rfl)
      have y5 : wr.cell? ⟨g3, k * 6 + 5, none⟩ = some (.int .i64 0) := (HV3.out.cell k hlt 5 (by decide)).trans (by rw [hp]; rfl)
      have CF := Lib.hid (fun W => rfind_none sep p W (by omega) (by omega) hpi)
      clear hp hpl hpi
      go_wp2_with fail
      refine (CF.out _).mono ?_
      rintro x wz ⟨rfl, rfl⟩
      go_wp2_with fail
      go_roundw
      case rel => exact ⟨k + 1, by go_num, by omega, by first | exact Lib.hid rfl | exact Lib.hid trivial⟩
      case measure => simp [intOf]; omega
    · have hkl : k = vs.length := by omega
      clear HK
      go_upto_region 13 with fail
      clear x0 x1 x2 hlt
      have HTJ2 := Lib.hid (fun W b (hb : Below wr.heap.size wr W) hA => HTJ.out W b (HP.out _ (HB.out.trans (hb.mono HB.out.size))) hA)
      clear HTJ HTS
      obtain ⟨TT, hTT⟩ : ∃ TT : List (Nat × Nat × (Value → World → Prop)), TT = [(0, 73, Is (.string ⟨(sep).toArray⟩)), (1, 74, PA (arr1 (tV sep))), (2, 75, PA (arr1 (tV [70, 65, 76, 83, 69]))), (3, 76, Is (.agg #[.int .i64 1, .int .i64 (vs.length : Int), .slice (some ⟨g3, 0, none⟩) vs.length c3])), (4, 77, PAr 3 [arr1 (tV sep), arr1 (tV [70, 65, 76, 83, 69]), ⟨1, (vs.length : Int), vs⟩]), (5, 78, PR (arr1 (tV t))), (6, 72, PR (arr1 (tV t))), (7, 79, PA (arr1 (tV t))), (8, 80, Is (.bool true)), (11, 9, Is (.bool true))] := ⟨_, rfl⟩
      have hcE : ∀ args W, (callFunc 9 args).run Tryz.prog W = .ok (.enter 9 args) W := enters_of Tryz.func9 (by kernel_rfl) rfl
      have hoE : ∀ args W, (callFunc 10 args).run Tryz.prog W = .ok (.enter 10 args) W := enters_of Tryz.func10 (by kernel_rfl) rfl
      have HcE := Lib.hid hcE
      have HoE := Lib.hid hoE
      have HTT := Lib.hid hTT
      clear hcE hoE hTT
      go_cut [8, 9] from 108 (fun vA vB wy => ∃ bx g cap : Nat, vA = .pointer (some ⟨bx, 0, none⟩) ∧ vB = .bool true ∧ wr.heap.size ≤ bx ∧ Hid (Lies wy bx 25 #[.int .i64 (arr1 (tV t)).r, .int .i64 (arr1 (tV t)).c, .slice (some ⟨g, 0, none⟩) (arr1 (tV t)).vs.length cap]) ∧ Hid (VP wy g (arr1 (tV t)).vs) ∧ Hid (Below wr.heap.size wr wy))
      case first =>
        refine wp_region_invB (by kernel_rfl) (by kernel_rfl) (fun a0 => 108 ≤ a0.tmps.size ∧ a0.eval (.tmp 5) = .pointer (some ⟨b3, 0, none⟩) ∧ a0.eval (.tmp 1) = .string ⟨sep.toArray⟩) (GI [73, 74, 75, 76, 77, 78, 72, 79, 80, 8, 9] TT wr 9 8 10 25 #[.int .i64 0, .int .i64 0, .slice none 0 0] (PC (arr1 (tV t)))) ⟨by simp, rfl, rfl⟩ (GI.start _ _ (Below.refl _ _).drew) ?_ ?_
        · rintro a0 ⟨hs, h5, h1⟩ listed a1 w1 j o hsz hI hun ho hdeps
          have hTT := HTT.out
          subst hTT
          have hk : GOk [73, 74, 75, 76, 77, 78, 72, 79, 80, 8, 9] [(0, 73, Is (.string ⟨(sep).toArray⟩)), (1, 74, PA (arr1 (tV sep))), (2, 75, PA (arr1 (tV [70, 65, 76, 83, 69]))), (3, 76, Is (.agg #[.int .i64 1, .int .i64 (vs.length : Int), .slice (some ⟨g3, 0, none⟩) vs.length c3])), (4, 77, PAr 3 [arr1 (tV sep), arr1 (tV [70, 65, 76, 83, 69]), ⟨1, (vs.length : Int), vs⟩]), (5, 78, PR (arr1 (tV t))), (6, 72, PR (arr1 (tV t))), (7, 79, PA (arr1 (tV t))), (8, 80, Is (.bool true)), (11, 9, Is (.bool true))] 9 8 10 108 25 3 (PC (arr1 (tV t))) := ⟨rfl, by
            intro e he
            simp only [List.mem_cons, List.not_mem_nil, or_false] at he
            rcases he with rfl | rfl | rfl | rfl | rfl | rfl | rfl | rfl | rfl | rfl
            · exact last_is _ _ _
            · exact last_PA _
            · exact last_PA _
            · exact last_is _ _ _
            · exact last_PAr _ _ (by decide)
            · exact last_PR _
            · exact last_PR _
            · exact last_PA _
            · exact last_is _ _ _
            · exact last_is _ _ _
            , pc_grow _, pc_put _⟩
          have hj := Up.of_false hun
          have hj12 : j < 12 := by rw [hsz] at hj; exact hj
          have e5 : a1.eval (.tmp 5) = .pointer (some ⟨b3, 0, none⟩) := (hI.off.eval (by decide)).trans h5
          have e1 : a1.eval (.tmp 1) = .string ⟨sep.toArray⟩ := (hI.off.eval (by decide)).trans h1
          have hLx : Lies w1 b3 25 #[.int .i64 1, .int .i64 (vs.length : Int), .slice (some ⟨g3, 0, none⟩) vs.length c3] := HX3.out.next hI.bel
          have m0 := hLx.cell 0
          have m1 := hLx.cell 1
          have m2 := hLx.cell 2
          simp only [List.getElem?_toArray, List.getElem?_cons_zero, List.getElem?_cons_succ] at m0 m1 m2
          rcases (by omega : j = 0 ∨ j = 1 ∨ j = 2 ∨ j = 3 ∨ j = 4 ∨ j = 5 ∨ j = 6 ∨ j = 7 ∨ j = 8 ∨ j = 9 ∨ j = 10 ∨ j = 11) with rfl | rfl | rfl | rfl | rfl | rfl | rfl | rfl | rfl | rfl | rfl | rfl
          · have ho2 := ho
            simp only [List.getElem?_toArray, List.getElem?_cons_zero, Option.some.injEq] at ho2
            subst ho2
            exact gi_val hk hI hs (.head _) (.string ⟨(sep).toArray⟩) _ hun ho rfl rfl (by simp [execOp, go_sem, tget e1]) (Below.refl _ _) rfl
          · have ho2 := ho
            simp only [List.getElem?_toArray, List.getElem?_cons_zero, List.getElem?_cons_succ, Option.some.injEq] at ho2
            subst ho2
            have d0 : Up listed 0 := hdeps { on := 0, ground := .data } (by simp) rfl
            have p0 : a1.eval (.tmp 73) = .string ⟨(sep).toArray⟩ := hI.pt (0, 73, Is (.string ⟨(sep).toArray⟩)) (.head _) d0
            refine gi_call hk hI hs (.tail _ (.head _)) 10 #[.string ⟨(sep).toArray⟩] hun ho rfl rfl (by simp [go_sem, tget p0, HoE.out]) ?_
            refine (one12_any sep w1).mono ?_
            rintro e w2 ⟨v, rfl, h, hb⟩
            exact ⟨v, rfl, hb, h⟩
          · have ho2 := ho
            simp only [List.getElem?_toArray, List.getElem?_cons_zero, List.getElem?_cons_succ, Option.some.injEq] at ho2
            subst ho2
            refine gi_call hk hI hs (.tail _ (.tail _ (.head _))) 10 #[.string ⟨([70, 65, 76, 83, 69]).toArray⟩] hun ho rfl rfl (by simp [go_sem, HoE.out]) ?_
            refine (one12_any [70, 65, 76, 83, 69] w1).mono ?_
            rintro e w2 ⟨v, rfl, h, hb⟩
            exact ⟨v, rfl, hb, h⟩
          · have ho2 := ho
            simp only [List.getElem?_toArray, List.getElem?_cons_zero, List.getElem?_cons_succ, Option.some.injEq] at ho2
            subst ho2
            exact gi_val hk hI hs (.tail _ (.tail _ (.tail _ (.head _)))) (.agg #[.int .i64 1, .int .i64 (vs.length : Int), .slice (some ⟨g3, 0, none⟩) vs.length c3]) _ hun ho rfl rfl (by simp [execOp, go_sem, tget e5, m0, m1, m2]) (Below.refl _ _) rfl
          · have ho2 := ho
            simp only [List.getElem?_toArray, List.getElem?_cons_zero, List.getElem?_cons_succ, Option.some.injEq] at ho2
            subst ho2
            have d1 : Up listed 1 := hdeps { on := 1, ground := .data } (by simp) rfl
            obtain ⟨gq1, cq1, p1, hv1⟩ := hI.pt (1, 74, PA (arr1 (tV sep))) (.tail _ (.head _)) d1
            have d2 : Up listed 2 := hdeps { on := 2, ground := .data } (by simp) rfl
            obtain ⟨gq2, cq2, p2, hv2⟩ := hI.pt (2, 75, PA (arr1 (tV [70, 65, 76, 83, 69]))) (.tail _ (.tail _ (.head _))) d2
            have d3 : Up listed 3 := hdeps { on := 3, ground := .data } (by simp) rfl
            have p3 : a1.eval (.tmp 76) = (.agg #[.int .i64 1, .int .i64 (vs.length : Int), .slice (some ⟨g3, 0, none⟩) vs.length c3]) := hI.pt (3, 76, Is (.agg #[.int .i64 1, .int .i64 (vs.length : Int), .slice (some ⟨g3, 0, none⟩) vs.length c3])) (.tail _ (.tail _ (.tail _ (.head _)))) d3
            have hv3 := HV3.out.next hI.bel
            exact gi_val hk hI hs (.tail _ (.tail _ (.tail _ (.tail _ (.head _))))) (.slice (some ⟨w1.heap.size, 0, none⟩) 3 3) _ hun ho rfl rfl (by simp [execOp, go_sem, tget p1, tget p2, tget p3, arr1]) ((Below.refl _ _).alloc (Nat.le_refl _) _) ⟨_, _, rfl, Lies.new _ _ _, rfl, args_three (a := arr1 (tV sep)) (c1 := cq1) (b := arr1 (tV [70, 65, 76, 83, 69])) (c2 := cq2) (d := ⟨1, (vs.length : Int), vs⟩) (c3 := c3) hv1 hv2 hv3 25⟩
          · have ho2 := ho
            simp only [List.getElem?_toArray, List.getElem?_cons_zero, List.getElem?_cons_succ, Option.some.injEq] at ho2
            subst ho2
            have d4 : Up listed 4 := hdeps { on := 4, ground := .data } (by simp) rfl
            obtain ⟨gq, csq, p4, -, -, hA⟩ := hI.pt (4, 77, PAr 3 [arr1 (tV sep), arr1 (tV [70, 65, 76, 83, 69]), ⟨1, (vs.length : Int), vs⟩]) (.tail _ (.tail _ (.tail _ (.tail _ (.head _))))) d4
            refine gi_call hk hI hs (.tail _ (.tail _ (.tail _ (.tail _ (.tail _ (.head _)))))) 9 #[.string ⟨#[84, 69, 88, 84, 74, 79, 73, 78]⟩, .slice (some ⟨gq, 0, none⟩) 3 3] hun ho rfl rfl (by simp [go_sem, tget p4, HcE.out]) ?_
            refine (HTJ2.out w1 gq hI.bel hA).mono ?_
            rintro e w2 ⟨v, rfl, h, hb⟩
            exact ⟨_, rfl, hb, v, rfl, h⟩
          · have ho2 := ho
            simp only [List.getElem?_toArray, List.getElem?_cons_zero, List.getElem?_cons_succ, Option.some.injEq] at ho2
            subst ho2
            have d5 : Up listed 5 := hdeps { on := 5, ground := .data } (by simp) rfl
            obtain ⟨u, p5, h⟩ := hI.pt (5, 78, PR (arr1 (tV t))) (.tail _ (.tail _ (.tail _ (.tail _ (.tail _ (.head _)))))) d5
            exact gi_val hk hI hs (.tail _ (.tail _ (.tail _ (.tail _ (.tail _ (.tail _ (.head _))))))) (.tuple #[u, .bool true]) _ hun ho rfl rfl (by simp [execOp, go_sem, tget p5]) (Below.refl _ _) ⟨u, rfl, h⟩
          · have ho2 := ho
            simp only [List.getElem?_toArray, List.getElem?_cons_zero, List.getElem?_cons_succ, Option.some.injEq] at ho2
            subst ho2
            have d6 : Up listed 6 := hdeps { on := 6, ground := .data } (by simp) rfl
            obtain ⟨u, p6, h⟩ := hI.pt (6, 72, PR (arr1 (tV t))) (.tail _ (.tail _ (.tail _ (.tail _ (.tail _ (.tail _ (.head _))))))) d6
            exact gi_val hk hI hs (.tail _ (.tail _ (.tail _ (.tail _ (.tail _ (.tail _ (.tail _ (.head _)))))))) u _ hun ho rfl rfl (by simp [execOp, go_sem, tget p6]) (Below.refl _ _) h
          · have ho2 := ho
            simp only [List.getElem?_toArray, List.getElem?_cons_zero, List.getElem?_cons_succ, Option.some.injEq] at ho2
            subst ho2
            have d6 : Up listed 6 := hdeps { on := 6, ground := .data } (by simp) rfl
            obtain ⟨u, p6, h⟩ := hI.pt (6, 72, PR (arr1 (tV t))) (.tail _ (.tail _ (.tail _ (.tail _ (.tail _ (.tail _ (.head _))))))) d6
            exact gi_val hk hI hs (.tail _ (.tail _ (.tail _ (.tail _ (.tail _ (.tail _ (.tail _ (.tail _ (.head _))))))))) (.bool true) _ hun ho rfl rfl (by simp [execOp, go_sem, tget p6]) (Below.refl _ _) rfl
          · have ho2 := ho
            simp only [List.getElem?_toArray, List.getElem?_cons_zero, List.getElem?_cons_succ, Option.some.injEq] at ho2
            subst ho2
            exact gi_alloc hk hI hs hun ho rfl rfl (fun W => by simp [execOp, go_sem])
          · have ho2 := ho
            simp only [List.getElem?_toArray, List.getElem?_cons_zero, List.getElem?_cons_succ, Option.some.injEq] at ho2
            subst ho2
            have d9 : Up listed 9 := hdeps { on := 9, ground := .data } (by simp) rfl
            have d7 : Up listed 7 := hdeps { on := 7, ground := .data } (by simp) rfl
            obtain ⟨gq, cq, p7, hv⟩ := hI.pt (7, 79, PA (arr1 (tV t))) (.tail _ (.tail _ (.tail _ (.tail _ (.tail _ (.tail _ (.tail _ (.head _)))))))) d7
            exact gi_store hk hI hun ho rfl rfl d9 [.int .i64 (arr1 (tV t)).r, .int .i64 (arr1 (tV t)).c, .slice (some ⟨gq, 0, none⟩) (arr1 (tV t)).vs.length cq] rfl rfl ⟨gq, cq, rfl, hv⟩ (fun bx g1 g2 => by
              have c0 := g2.cell 0
              have k0 := g2.frozen 0
              have c1 := g2.cell 1
              have k1 := g2.frozen 1
              have c2 := g2.cell 2
              have k2 := g2.frozen 2
              simp at c0 c1 c2
              simp [execOp, go_sem, tget p7, tget g1, putL, c0, k0, c1, k1, c2, k2])
          · have ho2 := ho
            simp only [List.getElem?_toArray, List.getElem?_cons_zero, List.getElem?_cons_succ, Option.some.injEq] at ho2
            subst ho2
            have d8 : Up listed 8 := hdeps { on := 8, ground := .data } (by simp) rfl
            have p8 : a1.eval (.tmp 80) = .bool true := hI.pt (8, 80, Is (.bool true)) (.tail _ (.tail _ (.tail _ (.tail _ (.tail _ (.tail _ (.tail _ (.tail _ (.head _))))))))) d8
            exact gi_val hk hI hs (.tail _ (.tail _ (.tail _ (.tail _ (.tail _ (.tail _ (.tail _ (.tail _ (.tail _ (.head _)))))))))) (.bool true) _ hun ho rfl rfl (by simp [execOp, go_sem, tget p8]) (Below.refl _ _) rfl
        · intro listed a1 w1 hI hup
          have hTT := HTT.out
          subst hTT
          obtain ⟨bx, b1, b2, -, b4⟩ := hI.al (hup 9 (by decide))
          obtain ⟨c, ⟨gq, cq, rfl, hv⟩, hl2⟩ := b4 (hup 10 (by decide))
          have hasg : a1.eval (.tmp 9) = .bool true := hI.pt (11, 9, Is (.bool true)) (.tail _ (.tail _ (.tail _ (.tail _ (.tail _ (.tail _ (.tail _ (.tail _ (.tail _ (.head _)))))))))) (hup 11 (by decide))
          have hbel := hI.bel
          obtain ⟨ff, rfl, hf⟩ := hI.off.forms
          have fA : ff 8 = .pointer (some ⟨bx, 0, none⟩) := (hf 8).trans b1
          have fB : ff 9 = .bool true := (hf 9).trans hasg
          clear hI
          simp only [List.foldl, Act.put, List.setIfInBounds_toArray, List.set, fA, fB]
          simp only [Exit.then]
          go_step
          go_meet
          exact ⟨bx, gq, cq, rfl, rfl, b2, Lib.hid hl2, Lib.hid hv, Lib.hid hbel⟩
      case rest =>
        obtain ⟨b4, g4, c4, rfl, rfl, -, HX4, HV4, HBe⟩ := hcut
        clear HTT HcE HoE
        replace HB := Lib.hid (HB.out.trans (HBe.out.mono HB.out.size))
        replace HV1 := Lib.hid (HV1.out.next HBe.out)
        replace HV2 := Lib.hid (HV2.out.next HBe.out)
        replace HV3 := Lib.hid (HV3.out.next HBe.out)
        replace HX3 := Lib.hid (HX3.out.next HBe.out)
        clear HBe
        clear HV1 HV2 HV3 HX3
        go_wp2_with fail
        refine (one12_any t _).mono ?_
        rintro x w5 ⟨v, rfl, ⟨g5, c5, rfl, hv⟩, hb⟩
        replace HB := Lib.hid (HB.out.trans (hb.mono HB.out.size))
        replace HX4 := Lib.hid (HX4.out.next hb)
        replace HV4 := Lib.hid (HV4.out.next hb)
        have HV5 := Lib.hid hv
        clear hb hv
        dsimp only [arr1, List.length_cons, List.length_nil, Nat.zero_add, List.map_cons, List.map_nil]
        go_wp2_with fail
        refine (one12_any sep _).mono ?_
        rintro x w6 ⟨v, rfl, ⟨g6, c6, rfl, hv⟩, hb⟩
        replace HB := Lib.hid (HB.out.trans (hb.mono HB.out.size))
        replace HX4 := Lib.hid (HX4.out.next hb)
        replace HV4 := Lib.hid (HV4.out.next hb)
        replace HV5 := Lib.hid (HV5.out.next hb)
        have HV6 := Lib.hid hv
        clear hb hv
        dsimp only [arr1, List.length_cons, List.length_nil, Nat.zero_add, List.map_cons, List.map_nil]
        go_wp2_with fail
        refine (one12_any sep _).mono ?_
        rintro x w7 ⟨v, rfl, ⟨g7, c7, rfl, hv⟩, hb⟩
        replace HB := Lib.hid (HB.out.trans (hb.mono HB.out.size))
        replace HX4 := Lib.hid (HX4.out.next hb)
        replace HV4 := Lib.hid (HV4.out.next hb)
        replace HV5 := Lib.hid (HV5.out.next hb)
        replace HV6 := Lib.hid (HV6.out.next hb)
        have HV7 := Lib.hid hv
        clear hb hv
        dsimp only [arr1, List.length_cons, List.length_nil, Nat.zero_add, List.map_cons, List.map_nil]
        have hA := args_three (a := arr1 (tV t)) (b := arr1 (tV sep)) (d := arr1 (tV sep)) (c1 := c5) (c2 := c6) (c3 := c7) HV5.out HV6.out HV7.out 25
        have HA := Lib.hid hA
        have HBa := Lib.hid (HB.out.alloc HB.out.size (.cells #[.int .i64 (arr1 (tV t)).r, .int .i64 (arr1 (tV t)).c, .slice (some ⟨g5, 0, none⟩) (arr1 (tV t)).vs.length c5, .int .i64 (arr1 (tV sep)).r, .int .i64 (arr1 (tV sep)).c, .slice (some ⟨g6, 0, none⟩) (arr1 (tV sep)).vs.length c6, .int .i64 (arr1 (tV sep)).r, .int .i64 (arr1 (tV sep)).c, .slice (some ⟨g7, 0, none⟩) (arr1 (tV sep)).vs.length c7] 25))
        have hbA : Below w7.heap.size w7 (w7.alloc (.cells #[.int .i64 (arr1 (tV t)).r, .int .i64 (arr1 (tV t)).c, .slice (some ⟨g5, 0, none⟩) (arr1 (tV t)).vs.length c5, .int .i64 (arr1 (tV sep)).r, .int .i64 (arr1 (tV sep)).c, .slice (some ⟨g6, 0, none⟩) (arr1 (tV sep)).vs.length c6, .int .i64 (arr1 (tV sep)).r, .int .i64 (arr1 (tV sep)).c, .slice (some ⟨g7, 0, none⟩) (arr1 (tV sep)).vs.length c7] 25)) := (Below.refl _ _).alloc (Nat.le_refl _) _
        have CC := Lib.hid (call_substitute t sep (by omega) (by omega) _ 3 _ (HP.out _ HBa.out) (HM.out _ HBa.out) HA.out)
        rw [vText_tV (show t.length ≤ 255 by omega)] at CC
        clear hA HA HBa
        dsimp only [arr1, List.length_cons, List.length_nil, Nat.zero_add, List.map_cons, List.map_nil] at CC hbA ⊢
        have HbA := Lib.hid hbA
        clear hbA
        go_wp2_with fail
        refine CC.out.mono ?_
        rintro x w8 ⟨v, rfl, ⟨g8, c8, rfl, hv⟩, hb⟩
        have hb2 := HbA.out.trans (hb.mono HbA.out.size)
        replace HB := Lib.hid (HB.out.trans (hb2.mono HB.out.size))
        replace HX4 := Lib.hid (HX4.out.next hb2)
        replace HV4 := Lib.hid (HV4.out.next hb2)
        replace HV5 := Lib.hid (HV5.out.next hb2)
        replace HV6 := Lib.hid (HV6.out.next hb2)
        replace HV7 := Lib.hid (HV7.out.next hb2)
        have HV8 := Lib.hid hv
        clear hb hb2 hv CC HbA
        dsimp only [arr1, List.length_cons, List.length_nil, Nat.zero_add, List.map_cons, List.map_nil]
        go_upto_region 15 with fail
        have hb2 : Below w8.heap.size w8 (w8.alloc (.cells #[.int .i64 1, .int .i64 1, .slice (some ⟨g8, 0, none⟩) 1 c8] 25)) := (Below.refl _ _).alloc (Nat.le_refl _) _
        replace HB := Lib.hid (HB.out.trans (hb2.mono HB.out.size))
        replace HX4 := Lib.hid (HX4.out.next hb2)
        replace HV4 := Lib.hid (HV4.out.next hb2)
        replace HV5 := Lib.hid (HV5.out.next hb2)
        replace HV6 := Lib.hid (HV6.out.next hb2)
        replace HV7 := Lib.hid (HV7.out.next hb2)
        replace HV8 := Lib.hid (HV8.out.next hb2)
        have HX8 := Lib.hid (Lies.new w8 25 #[.int .i64 1, .int .i64 1, .slice (some ⟨g8, 0, none⟩) 1 c8])
        clear hb2
        generalize w8.alloc (.cells #[.int .i64 1, .int .i64 1, .slice (some ⟨g8, 0, none⟩) 1 c8] 25) = W8 at *
        generalize w8.heap.size = b8 at *
        have CO := Lib.hid (fun W => one12_s t W)
        have CS := Lib.hid (fun W g1 c1 g2 c2 h1 h2 => rsame09_s (tV t) g1 c1 g2 c2 W h1 h2)
        have hx4 := HX4.out.lt
        have hv4 := HV4.out.lt
        have x4_0 := HX4.out.cell 0
        have x4_1 := HX4.out.cell 1
        have x4_2 := HX4.out.cell 2
        simp only [List.getElem?_toArray, List.getElem?_cons_zero, List.getElem?_cons_succ] at x4_0 x4_1 x4_2
        have hx8 := HX8.out.lt
        have hv8 := HV8.out.lt
        have x8_0 := HX8.out.cell 0
        have x8_1 := HX8.out.cell 1
        have x8_2 := HX8.out.cell 2
        simp only [List.getElem?_toArray, List.getElem?_cons_zero, List.getElem?_cons_succ] at x8_0 x8_1 x8_2
        have HSn : Hid (∀ wa, Below W8.heap.size W8 wa → wa.cell? ⟨b4, 0, none⟩ = some (.int .i64 1) ∧ wa.cell? ⟨b4, 1, none⟩ = some (.int .i64 1) ∧ wa.cell? ⟨b4, 2, none⟩ = some (.slice (some ⟨g4, 0, none⟩) 1 c4) ∧ wa.cell? ⟨b8, 0, none⟩ = some (.int .i64 1) ∧ wa.cell? ⟨b8, 1, none⟩ = some (.int .i64 1) ∧ wa.cell? ⟨b8, 2, none⟩ = some (.slice (some ⟨g8, 0, none⟩) 1 c8) ∧ Below W8.heap.size W8 wa) := Lib.hid (fun wa h => ⟨(h.cell (p := ⟨b4, 0, none⟩) hx4).trans x4_0, (h.cell (p := ⟨b4, 1, none⟩) hx4).trans x4_1, (h.cell (p := ⟨b4, 2, none⟩) hx4).trans x4_2, (h.cell (p := ⟨b8, 0, none⟩) hx8).trans x8_0, (h.cell (p := ⟨b8, 1, none⟩) hx8).trans x8_1, (h.cell (p := ⟨b8, 2, none⟩) hx8).trans x8_2, h⟩)
        have HSD : Hid (W8.drew.cell? ⟨b4, 0, none⟩ = some (.int .i64 1) ∧ W8.drew.cell? ⟨b4, 1, none⟩ = some (.int .i64 1) ∧ W8.drew.cell? ⟨b4, 2, none⟩ = some (.slice (some ⟨g4, 0, none⟩) 1 c4) ∧ W8.drew.cell? ⟨b8, 0, none⟩ = some (.int .i64 1) ∧ W8.drew.cell? ⟨b8, 1, none⟩ = some (.int .i64 1) ∧ W8.drew.cell? ⟨b8, 2, none⟩ = some (.slice (some ⟨g8, 0, none⟩) 1 c8) ∧ Below W8.heap.size W8 W8.drew) := Lib.hid ⟨x4_0, x4_1, x4_2, x8_0, x8_1, x8_2, (Below.refl _ _).drew⟩
        have HF4 := Lib.hid (fun wa (h : Below W8.heap.size W8 wa) => HV4.out.next h)
        have HF8 := Lib.hid (fun wa (h : Below W8.heap.size W8 wa) => HV8.out.next h)
        clear hv4 hv8 hx4 hx8 x4_0 x4_1 x4_2 x8_0 x8_1 x8_2
        have HBx : Hid (Below W8.heap.size W8 W8.drew) := Lib.hid (Below.refl _ _).drew
        go_region_held3 (fun w' => w'.cell? ⟨b4, 0, none⟩ = some (.int .i64 1) ∧ w'.cell? ⟨b4, 1, none⟩ = some (.int .i64 1) ∧ w'.cell? ⟨b4, 2, none⟩ = some (.slice (some ⟨g4, 0, none⟩) 1 c4) ∧ w'.cell? ⟨b8, 0, none⟩ = some (.int .i64 1) ∧ w'.cell? ⟨b8, 1, none⟩ = some (.int .i64 1) ∧ w'.cell? ⟨b8, 2, none⟩ = some (.slice (some ⟨g8, 0, none⟩) 1 c8) ∧ Below W8.heap.size W8 w')
          (first | exact HSD.out | exact HSn.out _ (Below.refl _ _) | exact HSn.out _ (Below.refl _ _).drew | exact HSn.out _ (Below.trans (Below.refl _ _).drew hb) | (go_split_ands; exact HSn.out _ (Below.trans (by assumption) (Below.mono hb (Below.size (by assumption))))))
          (first
            | (go_at_call 10; (with_reducible refine (CO.out _).mono ?_); rintro e wx ⟨gd, cd, rfl, hvd, hb⟩; have HBx : Hid (Below W8.heap.size W8 wx) := Lib.hid (by first | exact Below.trans (Below.refl _ _).drew hb | (go_split_ands; exact Below.trans (by assumption) (Below.mono hb (Below.size (by assumption))))); have HVd := Lib.hid hvd)
            | (go_at_call 12; (with_reducible refine (CS.out _ _ _ _ _ (HF4.out _ HBx.out) HVd.out).mono ?_); rintro e wx ⟨rfl, hb⟩)
            | (go_at_call 12; (with_reducible refine (CS.out _ _ _ _ _ (HF8.out _ HBx.out) HVd.out).mono ?_); rintro e wx ⟨rfl, hb⟩))
        all_goals go_wp2_with fail
        all_goals go_ret
        all_goals first | exact ⟨rfl, HB.out.trans (Below.mono (by assumption) HB.out.size)⟩ | (go_split_ands; exact ⟨rfl, HB.out.trans (Below.mono (by assumption) HB.out.size)⟩)
set_option maxRecDepth 100000 in
set_option maxHeartbeats 3200000 in
theorem splits_long (t sep : Bs) (w : World) (hP : PowTab w) (hM : MaxVar w) (ht : 100 < t.length ∨ 100 < sep.length) :
    Calls Tryz.prog 4 #[.string ⟨t.toArray⟩, .string ⟨sep.toArray⟩] w fun e w' => e = .returned (.bool true) ∧ Below w.heap.size w w' := by
  have CA := Lib.hid (awake12_any w hP hM)
  clear hP hM
  by_cases h1 : 100 < t.length
  · have ht' : (100 : Int) < (t.length : Int) := by omega
    clear ht h1
    go_enter Tryz.func4, Tryz.ntmps4
    go_wp2_with fail
    refine CA.out.mono ?_
    rintro x w0 ⟨rfl, hb⟩
    go_wp2_with fail
    all_goals go_ret
    all_goals exact ⟨rfl, hb⟩
  · have ht' : (t.length : Int) ≤ 100 := by omega
    have hs' : (100 : Int) < (sep.length : Int) := by omega
    clear ht h1
    go_enter Tryz.func4, Tryz.ntmps4
    go_wp2_with fail
    refine CA.out.mono ?_
    rintro x w0 ⟨rfl, hb⟩
    go_wp2_with fail
    all_goals go_ret
    all_goals exact ⟨rfl, hb⟩
theorem splits_any (t sep : Bs) (w : World) (hP : PowTab w) (hM : MaxVar w) :
    Calls Tryz.prog 4 #[.string ⟨t.toArray⟩, .string ⟨sep.toArray⟩] w fun e w' => e = .returned (.bool true) ∧ Below w.heap.size w w' := by
  by_cases hl : 100 < t.length ∨ 100 < sep.length
  · exact splits_long t sep w hP hM hl
  · have ht : t.length ≤ 100 := by omega
    have hs : sep.length ≤ 100 := by omega
    by_cases h0 : sep = []
    · subst h0
      exact splits_none t w hP hM ht
    · have hn : ((Lib.split t sep).map tV).length = (Lib.split t sep).length := List.length_map _
      have hl0 : 0 < (Lib.split t sep).length := List.length_pos_iff.2 (split_ne t sep)
      have hle : (Lib.split t sep).length ≤ 101 := Nat.le_trans (split_len sep h0 t) (by omega)
      refine splits_walk t sep ((Lib.split t sep).map tV) w hP hM ht hs h0 (by rw [hn]; exact hle) ?_ ?_ ?_
      · intro k h
        rw [hn] at h
        have hm := List.getElem_mem h
        exact ⟨(Lib.split t sep)[k], by rw [List.getElem_map], Nat.le_trans (split_piece sep t _ hm) (by omega), split_none sep h0 _ t (Nat.le_refl _) _ hm⟩
      · intro W b cap p m h
        rw [hn]
        exact call_textsplit t sep (by omega) (by omega) h0 b cap W p m h
      · intro W b p h
        rw [hn] at h
        have e := call_textjoin (Lib.split t sep) sep hl0 (by omega) (fun q hq => Nat.le_trans (split_piece sep t q hq) (by omega)) (by omega) (by rw [join_split]; omega) b W p h
        rw [join_split] at e
        exact e
end Go.Proofs.YtpdaloohgfnbhaaGreatDoor
