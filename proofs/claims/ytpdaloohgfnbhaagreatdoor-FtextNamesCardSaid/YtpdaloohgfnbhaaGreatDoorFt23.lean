/-
  ftext.alone; TEXTSPLIT by nothing.
-/
import Derived.Test.YtpdaloohgfnbhaaGreatDoorFt22
namespace Go.Proofs.YtpdaloohgfnbhaaGreatDoor
open Go.RowKit

theorem bad_fine (f : Nat) (h1 : 1 ≤ f) (h2 : f ≤ 9) : vRight (vBad f) = true ∧ (vBad f).sane := by
  rcases (by omega : f = 1 ∨ f = 2 ∨ f = 3 ∨ f = 4 ∨ f = 5 ∨ f = 6 ∨ f = 7 ∨ f = 8 ∨ f = 9) with rfl | rfl | rfl | rfl | rfl | rfl | rfl | rfl | rfl <;> exact ⟨by decide, by decide, by decide, by decide⟩
set_option maxRecDepth 100000 in
theorem alone_any (f : Nat) (h1 : 1 ≤ f) (h2 : f ≤ 9) (w : World) : Calls Tryz.prog 21 #[.int .i64 (f : Int)] w (ArrPost (arr1 (vBad f)) w) := by
  have CB := Lib.hid (fun W => bad_any (f : Int) W)
  have CO := Lib.hid (fun W => one_any (vBad f) W (bad_fine f h1 h2).1 (bad_fine f h1 h2).2)
  clear h1 h2
  generalize vBad (f : Int) = v at *
  generalize (f : Int) = fi at *
  have HB1 : Hid (Below w.heap.size w (w.alloc (.cells #[.int .i64 0, .int .i64 0, .slice none 0 0] 25))) := Lib.hid ((Below.refl _ w).alloc (Nat.le_refl _) _)
  have HR1 : Hid (Lies (w.alloc (.cells #[.int .i64 0, .int .i64 0, .slice none 0 0] 25)) w.heap.size 25 #[.int .i64 0, .int .i64 0, .slice none 0 0]) := Lib.hid (Lies.new w _ _)
  go_enter Tryz.func21, Tryz.ntmps21
  go_upto_region 1 with fail
  generalize w.alloc (.cells #[.int .i64 0, .int .i64 0, .slice none 0 0] 25) = W1 at *
  generalize hqe : w.heap.size = q at *
  have HQ := Lib.hid hqe
  clear hqe
  go_wp2_with fail
  refine (CB.out _).mono ?_
  rintro x w6 ⟨rfl, hb6⟩
  have hq5 : q < W1.heap.size := HR1.out.lt
  have HR6 := Lib.hid (HR1.out.next hb6)
  have HB6 := Lib.hid (HB1.out.trans (hb6.mono (Nat.le_of_lt hq5)))
  clear hb6 HR1 HB1
  go_wp2_with fail
  refine (CO.out _).mono ?_
  rintro x w7 ⟨u, rfl, ⟨g, cA, rfl, hvp⟩, hb7⟩
  have hq6 : q < w6.heap.size := HR6.out.lt
  have HR7 := Lib.hid (HR6.out.next hb7)
  have HB7 := Lib.hid (HB6.out.trans (hb7.mono (Nat.le_of_lt hq6)))
  have HVP := Lib.hid hvp
  have x0 := HR7.out.cell 0
  have x1 := HR7.out.cell 1
  have x2 := HR7.out.cell 2
  have f0 := HR7.out.frozen 0
  have f1 := HR7.out.frozen 1
  have f2 := HR7.out.frozen 2
  simp only [List.getElem?_toArray, List.getElem?_cons_zero, List.getElem?_cons_succ] at x0 x1 x2
  clear hb7 hvp HR6 HB6
  dsimp only [arr1, List.length_cons, List.length_nil]
  go_wp2_with fail
  refine bodyPost_ret (v := .agg #[.int .i64 1, .int .i64 1, .slice (some ⟨g, 0, none⟩) 1 cA]) (by simp [results, Tryz.results21, go_sem, x0, x1, x2]) rfl ?_
  refine ⟨_, rfl, ⟨g, cA, rfl, ?_⟩, ?_⟩
  · exact ((HVP.out.put (by decide) HR7.out 0 _).put (by decide) (HR7.out.put 0 _) 1 _).put (by decide) ((HR7.out.put 0 _).put 1 _) 2 _
  · rw [HQ.out]
    exact below_set (below_set (below_set HB7.out (Nat.le_refl _) 0 _) (Nat.le_refl _) 1 _) (Nat.le_refl _) 2 _
set_option maxRecDepth 100000 in
set_option maxHeartbeats 6400000 in
theorem textSplit0_any (t : Bs) (b cap : Nat) (w : World) (hP : PowTab w) (ha : Args w b [arr1 (tV t), arr1 (tV [])]) :
    Calls Tryz.prog 47 #[.slice (some ⟨b, 0, none⟩) 2 cap] w (ArrPost (arr1 (vBad 2)) w) := by
  obtain ⟨g1, c1, -, -, a2, v1⟩ := ha.2 0 (by simp)
  obtain ⟨g2, c2, -, -, b2, v2⟩ := ha.2 1 (by simp)
  have hbw := ha.1
  have A2 : Hid (w.cell? ⟨b, 2, none⟩ = some (.slice (some ⟨g1, 0, none⟩) 1 c1)) := Lib.hid a2
  have B2 : Hid (w.cell? ⟨b, 5, none⟩ = some (.slice (some ⟨g2, 0, none⟩) 1 c2)) := Lib.hid b2
  have V1 : Hid (VP w g1 [tV t]) := Lib.hid v1
  have V2 : Hid (VP w g2 [tV []]) := Lib.hid v2
  have CT := Lib.hid (fun (s : Bs) W (h : Below w.heap.size w W) => toText_any (tV s) W (hP.next h) (by simp) (by simp) (fun h => absurd h (by simp)))
  have CA := Lib.hid (fun W => alone_any 2 (by decide) (by decide) W)
  simp only [tV_text] at CT
  have HB1 : Hid (Below w.heap.size w (w.alloc (.cells #[.int .i64 0, .int .i64 0, .slice none 0 0] 25))) := Lib.hid ((Below.refl _ w).alloc (Nat.le_refl _) _)
  have HR1 : Hid (Lies (w.alloc (.cells #[.int .i64 0, .int .i64 0, .slice none 0 0] 25)) w.heap.size 25 #[.int .i64 0, .int .i64 0, .slice none 0 0]) := Lib.hid (Lies.new w _ _)
  dsimp only [valV, valC] at CT
  clear ha a2 v1 b2 v2 hP
  go_enter Tryz.func47, Tryz.ntmps47
  go_upto_region 1 with fail
  generalize w.alloc (.cells #[.int .i64 0, .int .i64 0, .slice none 0 0] 25) = W1 at *
  have hg1 := V1.out.lt
  have hg2 := V2.out.lt
  generalize hqe : w.heap.size = q at *
  have HQ := Lib.hid hqe
  clear hqe
  have a2 := (HB1.out.cell (p := ⟨b, 2, none⟩) hbw).trans A2.out
  have y0 : W1.cell? ⟨g1, 0, none⟩ = some (.int .i64 2) := (HB1.out.cell (p := ⟨g1, 0, none⟩) hg1).trans (V1.out.cell 0 (by simp) 0 (by decide))
  have y1 : W1.cell? ⟨g1, 1, none⟩ = some (.int .i64 0) := (HB1.out.cell (p := ⟨g1, 1, none⟩) hg1).trans (V1.out.cell 0 (by simp) 1 (by decide))
  have y2 : W1.cell? ⟨g1, 2, none⟩ = some (.int .i64 0) := (HB1.out.cell (p := ⟨g1, 2, none⟩) hg1).trans (V1.out.cell 0 (by simp) 2 (by decide))
  have y3 : W1.cell? ⟨g1, 3, none⟩ = some (.string ⟨t.toArray⟩) := (HB1.out.cell (p := ⟨g1, 3, none⟩) hg1).trans (V1.out.cell 0 (by simp) 3 (by decide))
  have y4 : W1.cell? ⟨g1, 4, none⟩ = some (.bool false) := (HB1.out.cell (p := ⟨g1, 4, none⟩) hg1).trans (V1.out.cell 0 (by simp) 4 (by decide))
  have y5 : W1.cell? ⟨g1, 5, none⟩ = some (.int .i64 0) := (HB1.out.cell (p := ⟨g1, 5, none⟩) hg1).trans (V1.out.cell 0 (by simp) 5 (by decide))
  go_wp2_with fail
  refine (CT.out t _ HB1.out).mono ?_
  rintro x w2 ⟨rfl, hb⟩
  have hqs : q < W1.heap.size := HR1.out.lt
  have HB2 := Lib.hid (HB1.out.trans (hb.mono (Nat.le_of_lt hqs)))
  have HR2 := Lib.hid (HR1.out.next hb)
  clear a2 y0 y1 y2 y3 y4 y5 hb HB1 HR1 hqs
  have a2 := (HB2.out.cell (p := ⟨b, 5, none⟩) hbw).trans B2.out
  have y0 : w2.cell? ⟨g2, 0, none⟩ = some (.int .i64 2) := (HB2.out.cell (p := ⟨g2, 0, none⟩) hg2).trans (V2.out.cell 0 (by simp) 0 (by decide))
  have y1 : w2.cell? ⟨g2, 1, none⟩ = some (.int .i64 0) := (HB2.out.cell (p := ⟨g2, 1, none⟩) hg2).trans (V2.out.cell 0 (by simp) 1 (by decide))
  have y2 : w2.cell? ⟨g2, 2, none⟩ = some (.int .i64 0) := (HB2.out.cell (p := ⟨g2, 2, none⟩) hg2).trans (V2.out.cell 0 (by simp) 2 (by decide))
  have y3 : w2.cell? ⟨g2, 3, none⟩ = some (.string ⟨([] : Bs).toArray⟩) := (HB2.out.cell (p := ⟨g2, 3, none⟩) hg2).trans (V2.out.cell 0 (by simp) 3 (by decide))
  have y4 : w2.cell? ⟨g2, 4, none⟩ = some (.bool false) := (HB2.out.cell (p := ⟨g2, 4, none⟩) hg2).trans (V2.out.cell 0 (by simp) 4 (by decide))
  have y5 : w2.cell? ⟨g2, 5, none⟩ = some (.int .i64 0) := (HB2.out.cell (p := ⟨g2, 5, none⟩) hg2).trans (V2.out.cell 0 (by simp) 5 (by decide))
  go_wp2_with fail
  refine (CT.out [] _ HB2.out).mono ?_
  rintro x w3 ⟨rfl, hb⟩
  have hqs : q < w2.heap.size := HR2.out.lt
  have HB3 := Lib.hid (HB2.out.trans (hb.mono (Nat.le_of_lt hqs)))
  have HR3 := Lib.hid (HR2.out.next hb)
  clear a2 y0 y1 y2 y3 y4 y5 hb HB2 HR2 hqs hbw hg1 hg2
  go_wp2_with fail
  refine (CA.out _).mono ?_
  rintro x w7 ⟨u, rfl, ⟨g, cA, rfl, hvp⟩, hb7⟩
  have hq6 : q < w3.heap.size := HR3.out.lt
  have HR7 := Lib.hid (HR3.out.next hb7)
  have HB7 := Lib.hid (HB3.out.trans (hb7.mono (Nat.le_of_lt hq6)))
  have HVP := Lib.hid hvp
  have x0 := HR7.out.cell 0
  have x1 := HR7.out.cell 1
  have x2 := HR7.out.cell 2
  have f0 := HR7.out.frozen 0
  have f1 := HR7.out.frozen 1
  have f2 := HR7.out.frozen 2
  simp only [List.getElem?_toArray, List.getElem?_cons_zero, List.getElem?_cons_succ] at x0 x1 x2
  clear hb7 hvp HR3 HB3
  dsimp only [arr1, List.length_cons, List.length_nil]
  go_wp2_with fail
  refine bodyPost_ret (v := .agg #[.int .i64 1, .int .i64 1, .slice (some ⟨g, 0, none⟩) 1 cA]) (by simp [results, Tryz.results47, go_sem, x0, x1, x2]) rfl ?_
  refine ⟨_, rfl, ⟨g, cA, rfl, ?_⟩, ?_⟩
  · exact ((HVP.out.put (by decide) HR7.out 0 _).put (by decide) (HR7.out.put 0 _) 1 _).put (by decide) ((HR7.out.put 0 _).put 1 _) 2 _
  · rw [HQ.out]
    exact below_set (below_set (below_set HB7.out (Nat.le_refl _) 0 _) (Nat.le_refl _) 1 _) (Nat.le_refl _) 2 _
theorem call_textsplit0 (t : Bs) (ht : t.length ≤ 255) (b cap : Nat) (w : World) (hP : PowTab w) (hA : Args w b [arr1 (tV t), arr1 (tV [])]) :
    Calls Tryz.prog 9 #[.string ⟨#[84, 69, 88, 84, 83, 80, 76, 73, 84]⟩, .slice (some ⟨b, 0, none⟩) 2 cap] w (CallPost (arr1 (vBad 2)) w) := by
  have hfn : ∀ q, Instr.findNow .string (.string ⟨#[84, 69, 88, 84, 83, 80, 76, 73, 84]⟩) (tabA q).toList 0 = some (some (14, entV 2 2 (.func (.func 47) #[] #[]))) := fun q => by rfl
  have hek : ∀ args W, (callFunc 47 args).run Tryz.prog W = .ok (.enter 47 args) W := enters_of Tryz.func47 (by kernel_rfl) rfl
  refine call_any [84, 69, 88, 84, 83, 80, 76, 73, 84] 2 2 47 (fun _ => #[]) 14 [arr1 (tV t), arr1 (tV [])] b cap (arr1 (vBad 2)) w hfn hek (by simp) (by simp) (by decide) hA ?_ ?_
  · intro a ha
    rcases (by simpa using ha : a = arr1 (tV t) ∨ a = arr1 (tV [])) with rfl | rfl
    · exact arr1_fine (tV_fine (by omega))
    · exact arr1_fine (tV_fine (by decide))
  · intro W hb _
    exact textSplit0_any t b cap W (hP.next hb) (hA.next hb)
end Go.Proofs.YtpdaloohgfnbhaaGreatDoor
