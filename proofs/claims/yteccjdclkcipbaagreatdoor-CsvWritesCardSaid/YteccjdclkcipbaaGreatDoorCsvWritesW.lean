/-
  counterpanelaw32.CsvWrites: the walk.
-/
import Derived.Test.YteccjdclkcipbaaGreatDoorCRef5
namespace Go.Proofs.YteccjdclkcipbaaGreatDoor
open Go.RowKit

set_option maxRecDepth 100000 in
set_option maxHeartbeats 6400000 in
theorem csvWrites_any (r c : Int) (A : Option Addr) (cap : Nat) (vs : List Val) (w : World) (hr1 : -9223372036854775808 ≤ r) (hr2 : r ≤ 9223372036854775807) (hv : VSl w A vs) (hmb : ∀ v ∈ vs, -9223372036854775808 ≤ v.mant ∧ v.mant ≤ 9223372036854775807) (hT : Tab w) (hP : PowTab w) (hm : MaxVar w) :
    Calls Tryz.prog 3 #[.agg #[.int .i64 r, .int .i64 c, .slice A vs.length cap]] w fun e w' => e = .returned (.bool true) ∧ Below w.heap.size w w' := by
  obtain ⟨W0, hW0⟩ : ∃ W0, W0 = w.alloc (.cells #[.int .i64 r, .int .i64 c, .slice A vs.length cap] 24) := ⟨_, rfl⟩
  have HB0 : Hid (Below w.heap.size w W0) := Lib.hid (by rw [hW0]; exact (Below.refl _ w).alloc (Nat.le_refl _) _)
  have HL0 : Hid (Lies W0 w.heap.size 24 #[.int .i64 r, .int .i64 c, .slice A vs.length cap]) := Lib.hid (by rw [hW0]; exact Lies.new w _ _)
  have HV0 := Lib.hid (hv.next HB0.out)
  have HT := Lib.hid (hT.next HB0.out)
  have HP := Lib.hid (hP.next HB0.out)
  have HM := Lib.hid (hm.next HB0.out)
  have C0 := Lib.hid (awake32_any W0 HT.out HP.out HM.out)
  have HMb := Lib.hid hmb
  have HR := Lib.hid (⟨hr1, hr2⟩ : _ ∧ _)
  have HW := Lib.hid hW0
  clear hv hT hP hm hmb hW0 hr1 hr2
  go_enter Tryz.func3, Tryz.ntmps3
  go_wp2_with fail
  rw [← HW.out]
  refine C0.out.mono ?_
  rintro e w1 ⟨rfl, hb1⟩
  have HB1 := Lib.hid hb1
  have CG := Lib.hid (great32_any r c A cap vs w1 (HV0.out.next hb1))
  have x0 := (HL0.out.next hb1).cell 0
  have x1 := (HL0.out.next hb1).cell 1
  have x2 := (HL0.out.next hb1).cell 2
  simp only [List.getElem?_toArray, List.getElem?_cons_zero, List.getElem?_cons_succ] at x0 x1 x2
  clear hb1 C0
  go_wp2_with fail
  refine CG.out.mono ?_
  rintro e w2 ⟨⟨b, rfl, hbf⟩, hb2⟩
  have HB2 := Lib.hid (HB1.out.trans (hb2.mono HB1.out.size))
  clear CG x0 x1 x2 hb2 HB1
  cases b
  · obtain ⟨hl200, hl300⟩ := hbf rfl
    have HS : Hid (∀ v ∈ vs, v.sane) := Lib.hid (fun v hv => ⟨(HMb.out v hv).1, (HMb.out v hv).2, by have := hl300 v hv; omega⟩)
    have x0 := (HL0.out.next HB2.out).cell 0
    have x1 := (HL0.out.next HB2.out).cell 1
    have x2 := (HL0.out.next HB2.out).cell 2
    simp only [List.getElem?_toArray, List.getElem?_cons_zero, List.getElem?_cons_succ] at x0 x1 x2
    have CW := Lib.hid (write32_any r c A cap vs w2 HR.out.1 HR.out.2 (HV0.out.next HB2.out) HS.out (HT.out.next HB2.out) (HP.out.next HB2.out) (HM.out.next HB2.out))
    have CQ := Lib.hid (fun W h => rwrite32_any r c A cap vs W HR.out h HS.out)
    have CM := Lib.hid (fun W h => rmay32_any r c A cap vs W HR.out h HS.out)
    have hno : Hid (aRight r c vs = false → cWrite r c vs = []) := Lib.hid (fun h => by unfold cWrite; rw [if_neg (by rw [h]; decide)])
    have hwl : Hid (aRight r c vs = true → (cWrite r c vs).length ≤ 1000000) := Lib.hid (fun h => by
      have h1 := write_len r c vs h
      have h2 := oSum_le vs (aRight_yes h).2.2
      omega)
    have hrw : Hid (aRight r c vs = true → cRead (cWrite r c vs) = ((r.toNat, c.toNat, vs), 0, 0)) := Lib.hid (fun h => cRead_write r c vs h)
    have hnat : Hid (aRight r c vs = true → (r.toNat : Int) = r ∧ (c.toNat : Int) = c) := Lib.hid (fun h => by
      obtain ⟨R, C, rfl, rfl, -⟩ := fits_nat (aRight_yes h).1
      exact ⟨rfl, rfl⟩)
    generalize cWrite r c vs = ws at *
    generalize aRight r c vs = may at *
    clear hl300 hbf
    go_wp2_with fail
    refine CW.out.mono ?_
    rintro e w3 ⟨rfl, hb3⟩
    have HB3 := Lib.hid (HB2.out.trans (hb3.mono HB2.out.size))
    clear hb3 CW x0 x1 x2 HB2
    have x0 := (HL0.out.next HB3.out).cell 0
    have x1 := (HL0.out.next HB3.out).cell 1
    have x2 := (HL0.out.next HB3.out).cell 2
    simp only [List.getElem?_toArray, List.getElem?_cons_zero, List.getElem?_cons_succ] at x0 x1 x2
    go_wp2_with fail
    refine (CQ.out _ (HV0.out.next HB3.out)).mono ?_
    rintro e w4 ⟨rfl, hb4⟩
    have HB4 := Lib.hid (HB3.out.trans (hb4.mono HB3.out.size))
    clear hb4 CQ x0 x1 x2 HB3
    have x0 := (HL0.out.next HB4.out).cell 0
    have x1 := (HL0.out.next HB4.out).cell 1
    have x2 := (HL0.out.next HB4.out).cell 2
    simp only [List.getElem?_toArray, List.getElem?_cons_zero, List.getElem?_cons_succ] at x0 x1 x2
    go_wp2_with fail
    refine (CM.out _ (HV0.out.next HB4.out)).mono ?_
    rintro e w5 ⟨rfl, hb5⟩
    have HB5 := Lib.hid (HB4.out.trans (hb5.mono HB4.out.size))
    clear hb5 CM x0 x1 x2 HB4
    cases may
    · have hws := hno.out rfl
      subst hws
      go_wp2_with fail
      go_ret
      exact ⟨rfl, HB0.out.trans (HB5.out.mono HB0.out.size)⟩
    · have hwl2 := hwl.out rfl
      obtain ⟨hn1, hn2⟩ := hnat.out rfl
      have hrw2 := hrw.out rfl
      have CR := Lib.hid (read32_any ws w5 hwl2 (HT.out.next HB5.out) (HM.out.next HB5.out))
      rw [hrw2] at CR
      clear hrw2 hwl hrw hno hnat
      go_wp2_with fail
      refine CR.out.mono ?_
      rintro e w6 ⟨B, cb, rfl, hvb, hb6⟩
      dsimp only at hvb ⊢
      rw [hn1, hn2]
      have HB7 : Below w6.heap.size w6 (w6.alloc (.cells #[.int .i64 r, .int .i64 c, .slice B vs.length cb] 24)) := (Below.refl _ _).alloc (Nat.le_refl _) _
      have L7 : Hid (Lies (w6.alloc (.cells #[.int .i64 r, .int .i64 c, .slice B vs.length cb] 24)) w6.heap.size 24 #[.int .i64 r, .int .i64 c, .slice B vs.length cb]) := Lib.hid (Lies.new w6 _ _)
      have HBZ : Hid (Below W0.heap.size W0 (w6.alloc (.cells #[.int .i64 r, .int .i64 c, .slice B vs.length cb] 24))) := Lib.hid ((HB5.out.trans (hb6.mono HB5.out.size)).trans (HB7.mono (by have := HB5.out.size; have := hb6.size; omega)))
      have HVb := Lib.hid (hvb.next HB7)
      have x0 := (HL0.out.next HBZ.out).cell 0
      have x1 := (HL0.out.next HBZ.out).cell 1
      have x2 := (HL0.out.next HBZ.out).cell 2
      have z0 := L7.out.cell 0
      have z1 := L7.out.cell 1
      have z2 := L7.out.cell 2
      simp only [List.getElem?_toArray, List.getElem?_cons_zero, List.getElem?_cons_succ] at x0 x1 x2 z0 z1 z2
      clear hb6 hvb HB7 CR hn1 hn2
      go_wp2_with fail
      refine (rsame32_true r c A B cap cb vs _ (by omega) (HV0.out.next HBZ.out) HVb.out).mono ?_
      rintro e w8 ⟨rfl, hb8⟩
      have HB8 := Lib.hid (HBZ.out.trans (hb8.mono HBZ.out.size))
      clear hb8 x0 x1 x2 z0 z1 z2
      go_wp2_with fail
      go_ret
      exact ⟨rfl, HB0.out.trans (HB8.out.mono HB0.out.size)⟩
  · go_wp2_with fail
    go_ret
    exact ⟨rfl, HB0.out.trans (HB2.out.mono HB0.out.size)⟩
end Go.Proofs.YteccjdclkcipbaaGreatDoor
