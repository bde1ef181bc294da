/-
  mask.Format.Show of a number; counterpanelaw31.awake.
-/
import Derived.Test.YteccjdclkcipbaaDoorMask9
import Derived.Test.YteccjdclkcipbaaDoorMask7
import Derived.Test.YteccjdclkcipbaaDoorPlMa
import Derived.Test.YteccjdclkcipbaaDoorVal4
namespace Go.Proofs.YteccjdclkcipbaaDoor
open Go.RowKit

/-- what a format that Parse made holds -/
def SecsOk (L : List MS) : Prop := 1 ≤ L.length ∧ L.length ≤ 4 ∧ ∀ s ∈ L, s.parts.length ≤ 1000 ∧ s.percents ≤ 1000 ∧ ∀ p ∈ s.parts, p.ok 255
set_option maxRecDepth 100000 in
set_option maxHeartbeats 3200000 in
theorem mshow_num (tx : Bs) (v : Value) (L : List MS) (x : Val) (w : World) (hk : x.kind = 1) (hF : FmtAt w v L) (hL : SecsOk L) (hT : Tab w) (hP : PowTab w) (hM : MaxVar w) (hR : pRight x.mant x.exp = true) :
    Calls Tryd.prog 28 #[.agg #[.string ⟨tx.toArray⟩, v], valV x] w fun e w' => e = .returned (.string ⟨(mNumber L x.mant x.exp).toArray⟩) ∧ Below w.heap.size w w' := by
  obtain ⟨kd, m, e, t, tr, f⟩ := x
  dsimp only at hk hR
  subst hk
  obtain ⟨g, cap, rfl, hlt⟩ := hF.form hL.1
  have CN := Lib.hid (fun W h1 h2 h3 h4 => mnumber_any tx (.slice (some ⟨g, 0, none⟩) L.length cap) L m e W h1 hL.1 hL.2.1 h2 h3 h4 hR hL.2.2)
  have HB : Hid (Below w.heap.size w ((w.alloc (.cells #[.string ⟨tx.toArray⟩, .slice (some ⟨g, 0, none⟩) L.length cap] 43)).alloc (.cells (valC ⟨1, m, e, t, tr, f⟩) 27))) := Lib.hid (((Below.refl _ w).alloc (Nat.le_refl _) _).alloc (by simp) _)
  have HF := Lib.hid hF
  have HT := Lib.hid hT
  have HP := Lib.hid hP
  have HM := Lib.hid hM
  clear hF hL hT hP hM hR
  go_enter Tryd.func28, Tryd.ntmps28
  go_wp2_with fail
  refine (CN.out _ (HF.out.next HB.out) (HT.out.next HB.out) (HP.out.next HB.out) (HM.out.next HB.out)).mono ?_
  rintro e w1 ⟨rfl, hb⟩
  have HB1 := Lib.hid (HB.out.trans (hb.mono HB.out.size))
  clear hb
  go_wp2_with fail
  go_ret
  exact ⟨rfl, HB1.out⟩
theorem ok_A : SecsOk [secA] := ⟨by decide, by decide, fun s hs => by
  rw [List.mem_singleton.1 hs]
  refine ⟨by decide, by decide, fun p hp => ?_⟩
  rw [List.mem_singleton.1 hp]
  exact ⟨by decide, by decide, by decide, by decide, by decide⟩⟩
theorem ok_B : SecsOk [secB0, secB1] := ⟨by decide, by decide, fun s hs => by
  simp only [List.mem_cons, List.not_mem_nil, or_false] at hs
  rcases hs with rfl | rfl
  · refine ⟨by decide, by decide, fun p hp => ?_⟩
    simp only [secB0, List.mem_cons, List.not_mem_nil, or_false] at hp
    rcases hp with rfl | rfl <;> exact ⟨by decide, by decide, by decide, by decide, by decide⟩
  · refine ⟨by decide, by decide, fun p hp => ?_⟩
    simp only [secB1, List.mem_cons, List.not_mem_nil, or_false] at hp
    rcases hp with rfl | rfl | rfl | rfl <;> exact ⟨by decide, by decide, by decide, by decide, by decide⟩⟩
set_option maxRecDepth 100000 in
set_option maxHeartbeats 3200000 in
theorem awake31_any (w : World) (hT : Tab w) (hP : PowTab w) (hM : MaxVar w) :
    Calls Tryd.prog 25 #[] w fun e w' => e = .returned (.bool true) ∧ Below w.heap.size w w' := by
  have CA := Lib.hid (fun W => parse_mask [35, 44, 35, 35, 48, 46, 48, 48] W (by decide))
  have CB := Lib.hid (fun W => parse_mask [48, 37, 59, 40, 48, 37, 41] W (by decide))
  rw [parse_A] at CA
  rw [parse_B] at CB
  have SA := Lib.hid (fun v W h1 h2 h3 h4 => mshow_num [35, 44, 35, 35, 48, 46, 48, 48] v [secA] ⟨1, 12345, -1, [], false, 0⟩ W rfl h1 ok_A h2 h3 h4 (by decide))
  have SB := Lib.hid (fun v W h1 h2 h3 h4 => mshow_num [48, 37, 59, 40, 48, 37, 41] v [secB0, secB1] ⟨1, -125, -3, [], false, 0⟩ W rfl h1 ok_B h2 h3 h4 (by decide))
  rw [show mNumber [secA] 12345 (-1) = _ from show_A] at SA
  rw [show mNumber [secB0, secB1] (-125) (-3) = _ from show_B] at SB
  have HT := Lib.hid hT
  have HP := Lib.hid hP
  have HM := Lib.hid hM
  clear hT hP hM
  go_enter Tryd.func25, Tryd.ntmps25
  go_wp2_with fail
  refine (CA.out _).mono ?_
  rintro e w1 ⟨v1, rfl, hf1, hb1⟩
  obtain ⟨g1, c1, rfl, hg1⟩ := hf1.form (by decide)
  have HF1 := Lib.hid hf1
  have HB1 := Lib.hid hb1
  clear hf1 hb1
  have hbn1 : Below w1.heap.size w1 (w1.alloc (.cells #[.string ⟨#[35, 44, 35, 35, 48, 46, 48, 48]⟩, .slice (some ⟨g1, 0, none⟩) 1 c1] 43)) := (Below.refl _ _).alloc (Nat.le_refl _) _
  have HF1' := Lib.hid (HF1.out.next hbn1)
  have HBx1 : Hid (Lies (w1.alloc (.cells #[.string ⟨#[35, 44, 35, 35, 48, 46, 48, 48]⟩, .slice (some ⟨g1, 0, none⟩) 1 c1] 43)) w1.heap.size 43 #[.string ⟨#[35, 44, 35, 35, 48, 46, 48, 48]⟩, .slice (some ⟨g1, 0, none⟩) 1 c1]) := Lib.hid (Lies.new w1 _ _)
  have HBW1 := Lib.hid (HB1.out.trans (hbn1.mono HB1.out.size))
  clear hbn1 HF1 HB1 hg1 CA
  have hl1 : [secA].length = 1 := rfl
  rw [hl1]
  clear hl1
  go_wp2_with fail
  refine (CB.out _).mono ?_
  rintro e w2 ⟨v2, rfl, hf2, hb2⟩
  obtain ⟨g2, c2, rfl, hg2⟩ := hf2.form (by decide)
  have hbn2 : Below w2.heap.size w2 (w2.alloc (.cells #[.string ⟨#[48, 37, 59, 40, 48, 37, 41]⟩, .slice (some ⟨g2, 0, none⟩) 2 c2] 43)) := (Below.refl _ _).alloc (Nat.le_refl _) _
  have HF1'' := Lib.hid ((HF1'.out.next hb2).next hbn2)
  have HF2' := Lib.hid (hf2.next hbn2)
  have HBx1' := Lib.hid (Lies.below (Lies.below HBx1.out hb2) hbn2)
  have HBx2' : Hid (Lies (w2.alloc (.cells #[.string ⟨#[48, 37, 59, 40, 48, 37, 41]⟩, .slice (some ⟨g2, 0, none⟩) 2 c2] 43)) w2.heap.size 43 #[.string ⟨#[48, 37, 59, 40, 48, 37, 41]⟩, .slice (some ⟨g2, 0, none⟩) 2 c2]) := Lib.hid (Lies.new w2 _ _)
  have HBW2 : Hid (Below w.heap.size w (w2.alloc (.cells #[.string ⟨#[48, 37, 59, 40, 48, 37, 41]⟩, .slice (some ⟨g2, 0, none⟩) 2 c2] 43))) := Lib.hid ((HBW1.out.trans (hb2.mono HBW1.out.size)).trans (hbn2.mono (HBW1.out.trans (hb2.mono HBW1.out.size)).size))
  clear hb2 hf2 hg2 hbn2 CB HF1' HBx1 HBW1
  have hl2 : [secB0, secB1].length = 2 := rfl
  rw [hl2]
  clear hl2
  go_upto_region 3 with fail
  generalize hq1 : w1.heap.size = q1 at *
  generalize hW : w2.alloc (.cells #[.string ⟨#[48, 37, 59, 40, 48, 37, 41]⟩, .slice (some ⟨g2, 0, none⟩) 2 c2] 43) = W at *
  generalize hq2 : w2.heap.size = q2 at *
  clear hW hq1 hq2
  have x0 := HBx1'.out.cell 0
  have x1 := HBx1'.out.cell 1
  have y0 := HBx2'.out.cell 0
  have y1 := HBx2'.out.cell 1
  simp only [List.getElem?_toArray, List.getElem?_cons_zero, List.getElem?_cons_succ] at x0 x1 y0 y1
  go_wp2_with fail
  refine (SA.out _ _ HF1''.out (HT.out.next HBW2.out) (HP.out.next HBW2.out) (HM.out.next HBW2.out)).mono ?_
  rintro e w4 ⟨rfl, hb⟩
  have HF2 := Lib.hid (HF2'.out.next hb)
  have HBW4 := Lib.hid (HBW2.out.trans (hb.mono HBW2.out.size))
  have HBy := Lib.hid (Lies.below HBx2'.out hb)
  clear hb HF2' HBW2 HBx2' HBx1' x0 x1 y0 y1 SA
  have y0 := HBy.out.cell 0
  have y1 := HBy.out.cell 1
  simp only [List.getElem?_toArray, List.getElem?_cons_zero, List.getElem?_cons_succ] at y0 y1
  go_wp2_with fail
  refine (SB.out _ _ HF2.out (HT.out.next HBW4.out) (HP.out.next HBW4.out) (HM.out.next HBW4.out)).mono ?_
  rintro e w5 ⟨rfl, hb⟩
  have HBW5 := Lib.hid (HBW4.out.trans (hb.mono HBW4.out.size))
  clear hb
  go_wp2_with fail
  go_ret
  exact ⟨rfl, HBW5.out⟩
end Go.Proofs.YteccjdclkcipbaaDoor
