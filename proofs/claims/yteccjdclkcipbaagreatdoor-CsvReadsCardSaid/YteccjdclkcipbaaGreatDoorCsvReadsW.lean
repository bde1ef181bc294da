/-
  counterpanelaw32.CsvReads: the walk.
-/
import Derived.Test.YteccjdclkcipbaaGreatDoorCRef3
namespace Go.Proofs.YteccjdclkcipbaaGreatDoor
open Go.RowKit

set_option maxRecDepth 100000 in
set_option maxHeartbeats 6400000 in
theorem csvReads_any (s : Bs) (w : World) (hs : s.length ≤ maxLen) (hT : Tab w) (hP : PowTab w) (hm : MaxVar w) :
    Calls Tryz.prog 4 #[.string ⟨s.toArray⟩] w fun e w' => e = .returned (.bool true) ∧ Below w.heap.size w w' := by
  have C0 := Lib.hid (awake32_any w hT hP hm)
  have HT := Lib.hid hT
  have HP := Lib.hid hP
  have HM := Lib.hid hm
  unfold maxLen at hs
  clear hT hP hm
  by_cases hl : 2000 < s.length
  · have hl2 : (2000 : Int) < (s.length : Int) := by omega
    go_enter Tryz.func4, Tryz.ntmps4
    go_wp2_with fail
    refine C0.out.mono ?_
    rintro e w1 ⟨rfl, hb⟩
    have HB := Lib.hid hb
    clear hb
    go_wp2_with fail
    go_ret
    exact ⟨rfl, HB.out⟩
  · have CR := Lib.hid (fun W => read32_any s W (by omega))
    have CQ := Lib.hid (fun W => rread32_any s W (by omega))
    obtain ⟨hok1, hok2⟩ := cRead_ok s
    obtain ⟨R, hR⟩ : ∃ R, cRead s = R := ⟨_, rfl⟩
    rw [hR] at CR CQ hok1 hok2
    obtain ⟨⟨n, m, vs⟩, k, er⟩ := R
    dsimp only at hok1 hok2
    clear hR
    have hvl : vs.length ≤ 4096 := by
      by_cases h0 : er = 0
      · obtain ⟨-, h1, -⟩ := hok1 h0
        obtain ⟨f1, e1, -⟩ := aRight_yes h1
        obtain ⟨R, C, e2, e3, -, -, -, -, h5⟩ := fits_nat f1
        rw [e2, e3, ← Int.natCast_mul] at e1
        have : vs.length = R * C := by exact_mod_cast e1
        omega
      · have := hok2 h0
        injection this with h1 h2
        injection h2 with h2 h3
        rw [h3]
        simp
    have HOk := Lib.hid hok1
    clear hok1 hok2
    go_enter Tryz.func4, Tryz.ntmps4
    go_wp2_with fail
    refine C0.out.mono ?_
    rintro e w1 ⟨rfl, hb⟩
    have HB1 := Lib.hid hb
    clear hb C0
    go_wp2_with fail
    refine (CR.out _ (HT.out.next HB1.out) (HM.out.next HB1.out)).mono ?_
    rintro e w2 ⟨A, ca, rfl, hva, hb⟩
    dsimp only at hva ⊢
    have HB2 := Lib.hid (HB1.out.trans (hb.mono HB1.out.size))
    have L3 : Hid (Lies (w2.alloc (.cells #[.int .i64 (n : Int), .int .i64 (m : Int), .slice A vs.length ca] 24)) w2.heap.size 24 #[.int .i64 (n : Int), .int .i64 (m : Int), .slice A vs.length ca]) := Lib.hid (Lies.new w2 _ _)
    have HB3 : Hid (Below w2.heap.size w2 (w2.alloc (.cells #[.int .i64 (n : Int), .int .i64 (m : Int), .slice A vs.length ca] 24))) := Lib.hid ((Below.refl _ _).alloc (Nat.le_refl _) _)
    have HV3 := Lib.hid (hva.next HB3.out)
    clear hb hva HB1 CR
    go_wp2_with fail
    generalize hW3 : w2.alloc (.cells #[.int .i64 (n : Int), .int .i64 (m : Int), .slice A vs.length ca] 24) = W3 at *
    generalize hb3 : w2.heap.size = b3 at *
    have HBW3 : Hid (Below w.heap.size w W3) := Lib.hid (HB2.out.trans (HB3.out.mono (by have := HB2.out.size; omega)))
    clear hW3
    refine (CQ.out _).mono ?_
    rintro e w4 ⟨B, cb, rfl, hvb, hb4⟩
    dsimp only at hvb ⊢
    have L4 := Lib.hid ((L3.out.next hb4).alloc (.cells #[.int .i64 (n : Int), .int .i64 (m : Int), .slice B vs.length cb] 24))
    have HB5 : Below w4.heap.size w4 (w4.alloc (.cells #[.int .i64 (n : Int), .int .i64 (m : Int), .slice B vs.length cb] 24)) := (Below.refl _ _).alloc (Nat.le_refl _) _
    have L5 : Hid (Lies (w4.alloc (.cells #[.int .i64 (n : Int), .int .i64 (m : Int), .slice B vs.length cb] 24)) w4.heap.size 24 #[.int .i64 (n : Int), .int .i64 (m : Int), .slice B vs.length cb]) := Lib.hid (Lies.new w4 _ _)
    have HA5 := Lib.hid ((HV3.out.next hb4).next HB5)
    have HV5 := Lib.hid (hvb.next HB5)
    have HBW5 := Lib.hid ((HBW3.out.trans (hb4.mono HBW3.out.size)).trans (HB5.mono (by have := HBW3.out.size; have := hb4.size; omega)))
    have x0 := L4.out.cell 0
    have x1 := L4.out.cell 1
    have x2 := L4.out.cell 2
    have z0 := L5.out.cell 0
    have z1 := L5.out.cell 1
    have z2 := L5.out.cell 2
    simp only [List.getElem?_toArray, List.getElem?_cons_zero, List.getElem?_cons_succ] at x0 x1 x2 z0 z1 z2
    clear hb4 hvb HB5 CQ L3 HV3 HBW3 HB3 HB2 hb3
    go_wp2_with fail
    refine (rsame32_true (n : Int) (m : Int) A B ca cb vs _ (by omega) HA5.out HV5.out).mono ?_
    rintro e w6 ⟨rfl, hb6⟩
    have L6 := Lib.hid (L4.out.next hb6)
    have HA6 := Lib.hid (HA5.out.next hb6)
    have HB6 := Lib.hid (HBW5.out.trans (hb6.mono HBW5.out.size))
    clear hb6 L4 L5 HA5 HV5 HBW5 x0 x1 x2 z0 z1 z2
    by_cases he : er = 0
    · subst he
      obtain ⟨rfl, har, ho⟩ := HOk.out rfl
      have har2 := Lib.hid har
      obtain ⟨f1, -, hvr⟩ := aRight_yes har
      obtain ⟨Rn, Cn, e2, e3, -, -, h3, h4, h5⟩ := fits_nat f1
      have hn : n ≤ 4096 := by omega
      have hwl := write_len _ _ _ har
      have hwl2 : (cWrite (n : Int) (m : Int) vs).length ≤ 1000000 := by omega
      have CW := Lib.hid (write32_any (n : Int) (m : Int) A ca vs w6 (by omega) (by omega) HA6.out (fun v hv => right_sane (hvr v hv)) (HT.out.next HB6.out) (HP.out.next HB6.out) (HM.out.next HB6.out))
      have CR2 := Lib.hid (fun W => read32_any (cWrite (n : Int) (m : Int) vs) W hwl2)
      have hrw := cRead_write _ _ _ har
      rw [hrw] at CR2
      simp only [Int.toNat_natCast] at CR2
      generalize cWrite (n : Int) (m : Int) vs = ws at *
      have x0 := L6.out.cell 0
      have x1 := L6.out.cell 1
      have x2 := L6.out.cell 2
      simp only [List.getElem?_toArray, List.getElem?_cons_zero, List.getElem?_cons_succ] at x0 x1 x2
      clear har f1 hvr e2 e3 h3 h4 h5 hrw hwl ho
      go_wp2_with fail
      refine CW.out.mono ?_
      rintro e w7 ⟨rfl, hb7⟩
      have HB7 := Lib.hid (HB6.out.trans (hb7.mono HB6.out.size))
      have L7 := Lib.hid (L6.out.next hb7)
      have HA7 := Lib.hid (HA6.out.next hb7)
      clear hb7 CW x0 x1 x2 HB6 L6 HA6
      go_wp2_with fail
      refine (CR2.out _ (HT.out.next HB7.out) (HM.out.next HB7.out)).mono ?_
      rintro e w8 ⟨C8, c8, rfl, hvc, hb8⟩
      dsimp only at hvc ⊢
      have HB9 : Below w8.heap.size w8 (w8.alloc (.cells #[.int .i64 (n : Int), .int .i64 (m : Int), .slice C8 vs.length c8] 24)) := (Below.refl _ _).alloc (Nat.le_refl _) _
      have L9 := Lib.hid ((L7.out.next hb8).alloc (.cells #[.int .i64 (n : Int), .int .i64 (m : Int), .slice C8 vs.length c8] 24))
      have L9b : Hid (Lies (w8.alloc (.cells #[.int .i64 (n : Int), .int .i64 (m : Int), .slice C8 vs.length c8] 24)) w8.heap.size 24 #[.int .i64 (n : Int), .int .i64 (m : Int), .slice C8 vs.length c8]) := Lib.hid (Lies.new w8 _ _)
      have HA9 := Lib.hid ((HA7.out.next hb8).next HB9)
      have HC9 := Lib.hid (hvc.next HB9)
      have HBW9 := Lib.hid ((HB7.out.trans (hb8.mono HB7.out.size)).trans (HB9.mono (by have := HB7.out.size; have := hb8.size; omega)))
      have x0 := L9.out.cell 0
      have x1 := L9.out.cell 1
      have x2 := L9.out.cell 2
      have z0 := L9b.out.cell 0
      have z1 := L9b.out.cell 1
      have z2 := L9b.out.cell 2
      simp only [List.getElem?_toArray, List.getElem?_cons_zero, List.getElem?_cons_succ] at x0 x1 x2 z0 z1 z2
      clear hb8 hvc HB9 CR2 HB7 L7 HA7
      go_wp2_with fail
      refine (rsame32_true (n : Int) (m : Int) A C8 ca c8 vs _ (by omega) HA9.out HC9.out).mono ?_
      rintro e w10 ⟨rfl, hb10⟩
      have HB10 := Lib.hid (HBW9.out.trans (hb10.mono HBW9.out.size))
      clear hb10
      go_wp2_with fail
      go_ret
      exact ⟨rfl, HB10.out⟩
    · have b0 : (er != 0) = true := by rw [bne_iff_ne]; exact he
      clear he
      go_wp2_with fail
      go_ret
      exact ⟨rfl, HB6.out⟩
end Go.Proofs.YteccjdclkcipbaaGreatDoor
