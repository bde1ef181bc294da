/-
  counterpaneref01.Round of a right number, the case in which digits are cut off.
-/
import Derived.Test.YteccjdclkcipbaaDoorPlMi
import Derived.Test.YteccjdclkcipbaaDoorRefA3
import Derived.Test.YteccjdclkcipbaaDoorRefA6
import Derived.Test.YteccjdclkcipbaaDoorRefE1
import Derived.Test.YteccjdclkcipbaaDoorNum11
namespace Go.Proofs.YteccjdclkcipbaaDoor
open Go.RowKit

set_option maxRecDepth 100000 in
set_option maxHeartbeats 6400000 in
theorem rRound_near (m e : Int) (k : Nat) (w : World) (hk : k ≤ 30) (hR : pRight m e = true) (j n : Nat) (hj : -(k : Int) - e = j) (hj0 : 0 < j) (hn : (dl m.natAbs).length = n + j) :
    Calls Tryd.prog 30 #[numV m e, .int .i64 k] w fun x w' => x = .returned (numV (nRound m e k).1 (nRound m e k).2) ∧ Below w.heap.size w w' := by
  obtain ⟨a1, a2⟩ := rb hR
  have C := Lib.hid (fun W => rRight_any m e W (by omega) (by omega))
  rw [hR] at C
  have CO := Lib.hid (fun W => rOf_any m e W (by omega) (by omega))
  have T0 : Hid (NumIn w m e ((w.alloc (.cells #[.int .i64 m, .int .i64 e] 23)).alloc (.cells #[.int .i64 0, .int .i64 0] 23))) := Lib.hid ((NumIn.start w m e).next ((Below.refl _ _).alloc (Nat.le_refl _) _))
  have HL : Hid (Lies ((w.alloc (.cells #[.int .i64 m, .int .i64 e] 23)).alloc (.cells #[.int .i64 0, .int .i64 0] 23)) (w.heap.size + 1) 23 #[.int .i64 0, .int .i64 0]) := Lib.hid (by have := Lies.new (w.alloc (.cells #[.int .i64 m, .int .i64 e] 23)) 23 #[.int .i64 0, .int .i64 0]; simpa using this)
  obtain ⟨i0, hi, hz0, hz1, hz2⟩ := info_parts infoI64
  have hnl : n < (dl m.natAbs).length := by omega
  have HNr := Lib.hid (round_near m e k hR hk j n hj hj0 hn _ (List.getElem?_eq_getElem hnl))
  have HDg := Lib.hid (dl_dig m.natAbs)
  have hl20 : (dl m.natAbs).length ≤ 20 := dl_len_le _ (by omega)
  have h5 : ¬ -(k : Int) ≤ e := by omega
  have he : -1000 ≤ e ∧ e ≤ 1000 := by
    by_cases z : m = 0
    · unfold pRight at hR; rw [if_pos z] at hR; simp at hR; omega
    · have := pRight_of hR z; omega
  obtain ⟨e1, e2⟩ := he
  generalize nRound m e k = r at *
  unfold OfPost at CO
  generalize dl m.natAbs = L at *
  have hgt : ¬ (L.length : Int) < -(k : Int) - e := by omega
  have hgt2 : (L.length : Int) - (-(k : Int) - e) = n := by omega
  obtain ⟨z0, z1, z2, z3⟩ := T0.out
  have HLen := Lib.hid hn
  have hnL : n < L.length := by omega
  clear hR hj hn
  go_enter Tryd.func30, Tryd.ntmps30
  go_wp2_with fail
  refine (C.out _).mono ?_
  rintro x w1 ⟨rfl, hb⟩
  have HL1 := Lib.hid (Lies.below HL.out hb)
  have T1 := Lib.hid (T0.out.next hb)
  clear hb HL T0 C z0 z1 z2 z3
  obtain ⟨g0, g1, g2, g3⟩ := T1.out
  go_wp2_with fail
  refine (CO.out _).mono ?_
  rintro x w2 ⟨v, rfl, hO, hb⟩
  obtain ⟨A, c, rfl, hs⟩ := own_islice hO
  obtain ⟨b, off, rfl, hb0, hbw, hrow⟩ := hs.2.2 (by omega)
  have hbn : Below w2.heap.size w2 (w2.alloc (.cells #[.bool (decide (m < 0)), .slice (some ⟨b, off, none⟩) L.length c, .int .i64 e] 89)) := (Below.refl _ _).alloc (Nat.le_refl _) _
  have HL2 := Lib.hid (Lies.below (Lies.below HL1.out hb) hbn)
  have T2 := Lib.hid ((T1.out.next hb).next hbn)
  have HX : Hid (Lies (w2.alloc (.cells #[.bool (decide (m < 0)), .slice (some ⟨b, off, none⟩) L.length c, .int .i64 e] 89)) w2.heap.size 89 #[.bool (decide (m < 0)), .slice (some ⟨b, off, none⟩) L.length c, .int .i64 e]) := Lib.hid (Lies.new w2 _ _)
  have HRow : Hid (IRow (w2.alloc (.cells #[.bool (decide (m < 0)), .slice (some ⟨b, off, none⟩) L.length c, .int .i64 e] 89)) b off L) := Lib.hid (IRow.below hrow hbn hbw)
  have HCap := Lib.hid hs.1
  have HCm := Lib.hid hs.2.1
  have hbq : b < w2.heap.size := hbw
  clear hO hb hbn HL1 T1 CO hs hrow hb0 hbw g0 g1 g2 g3
  go_upto_region 6 with fail
  generalize hW : w2.alloc (.cells #[.bool (decide (m < 0)), .slice (some ⟨b, off, none⟩) L.length c, .int .i64 e] 89) = W at *
  have hbW : b < W.heap.size := by rw [← hW]; simp; omega
  have hqW : w2.heap.size < W.heap.size := by rw [← hW]; simp
  generalize w2.heap.size = q at *
  clear hW
  obtain ⟨g0, g1, g2, g3⟩ := T2.out
  have q0 := HL2.out.cell 0
  have q1 := HL2.out.cell 1
  have f0 := HL2.out.frozen 0
  have f1 := HL2.out.frozen 1
  have hlt := HL2.out.lt
  have y0 := HX.out.cell 0
  have y1 := HX.out.cell 1
  have y2 := HX.out.cell 2
  have HB1 := Lib.hid g3
  clear HL2 T2 g3 HX
  simp only [List.getElem?_toArray, List.getElem?_cons_zero, List.getElem?_cons_succ] at q0 q1 y0 y1 y2
  go_upto_region 9 with fail
  have HSrc : Hid (Src (W.alloc (.cells #[.int .i64 0] 3)) (some ⟨b, off, none⟩) ((L.take n).map intV)) := Lib.hid ((HRow.out.take n).src.keep (B := W.heap.size) (fun ad e => by injection e with e; subst e; exact hbW) ((Below.refl _ _).alloc (Nat.le_refl _) _))
  have hln : (L.take n).length = n := by rw [List.length_take]; omega
  have HLn := Lib.hid hln
  have hnc : n < c := by have := HCap.out; omega
  clear hln
  go_wp2_with (at_builtin; refine wpList_append_src _ rfl (.tmp 42) (.tmp 50) 87 rfl W.heap.size 3 i0 (.int .i64 0) 8 Tryd.underlying87 hi hz0 hz1 hz2 rfl (.slice (some ⟨W.heap.size, 0, none⟩) 1 1) 1 [.int .i64 0] rfl (fresh_own _ _ _ (Nat.le_refl _) _ rfl) (some ⟨b, off, none⟩) n c ((L.take n).map intV) rfl (by rw [List.length_map]; exact HLn.out) HSrc.out (ints_one _) ?c3 ?c4 ?c5 ?_)
  case c3 => unfold maxLen; omega
  case c4 => omega
  case c5 => simp
  intro v' w3 hown1 hg1 _
  have hO : w3.ownsRow W.heap.size 3 1 v' (0 :: L.take n).length ((0 :: L.take n).map intV) := by
    rw [List.length_cons, HLn.out, Nat.add_comm, List.map_cons, List.map_take]
    exact hown1
  obtain ⟨g, cap2, rfl, hsl1, hrow1⟩ := own_isl (base := 0) hO (Nat.zero_le _) (by simp)
  have HG : Hid (W.heap.size ≤ g) := Lib.hid (own_ge hO g rfl)
  have HGlt : Hid (g < w3.heap.size) := Lib.hid (by obtain ⟨b', o', q1, _, q3, _⟩ := hsl1.2.2 (by simp); injection q1 with q1; injection q1 with q1 _ _; subst q1; exact q3)
  have HKr := Lib.hid hrow1
  have HCap2 : Hid ((0 :: L.take n).length ≤ cap2 ∧ cap2 ≤ maxLen) := Lib.hid ⟨hsl1.1, hsl1.2.1⟩
  have HB3 : Hid (Below W.heap.size W w3) := Lib.hid (((Below.refl _ W).alloc (Nat.le_refl _) _).grown hg1 (by simp) (fun k h => by simp [Value.ownBlock] at h; omega))
  have HR3 : Hid (IRow w3 b off L) := Lib.hid (IRow.below HRow.out HB3.out hbW)
  have hKl : (0 :: L.take n).length = n + 1 := by rw [List.length_cons, HLn.out]
  rw [hKl] at hO ⊢
  clear hown1 hg1 hO hsl1 hrow1 HSrc
  have HKl := Lib.hid hKl
  clear hKl
  have x0 := (HR3.out n hnL).1
  unfold intV at x0
  have hx9 : L[n] ≤ 9 := HDg.out _ (List.getElem_mem hnL)
  have HNn : Hid (n < L.length) := Lib.hid hnL
  have HV0 : Hid (natOf (0 :: L.take n) = natOf (L.take n)) := Lib.hid (natOf_ahead _)
  have HKD : Hid (Dig (0 :: L.take n)) := Lib.hid (Dig.cons (Nat.zero_le _) (HDg.out.take n))
  have HKB : Hid (∀ h : 0 < (0 :: L.take n).length, (0 :: L.take n)[0] = 0) := Lib.hid (fun _ => rfl)
  generalize natOf (L.take n) = NH at *
  generalize hK : 0 :: L.take n = K at *
  generalize L[n] = x at *
  clear hK HDg HLn HR3
  have Y0 := Lib.hid y0
  have Q := Lib.hid (And.intro q0 (And.intro q1 (And.intro f0 (And.intro f1 hlt))))
  clear f0 f1
  have hqg : q < g := by have := HG.out; omega
  have hrg : w.heap.size + 1 < W.heap.size := hlt
  clear hlt
  have y1c := (HB3.out.cell (p := ⟨q, 1, none⟩) hqW).trans y1
  clear y1
  go_upto_if 61 with fail
  go_cut [8] (fun _ wx => ∃ R : List Nat, Hid (R.length = n + 1) ∧ Hid (Dig R) ∧ Hid (natOf R = NH + if 5 ≤ x then 1 else 0) ∧ Hid (IRow wx g 0 R) ∧ Hid (Below W.heap.size W wx) ∧ g < wx.heap.size)
  case first =>
    by_cases h5x : 5 ≤ x
    · have h5i : (5 : Int) ≤ (x : Int) := by omega
      go_wp2_with fail
      go_loopw [8] (fun i wr => ∃ m : Nat, m ≤ n ∧ i = .int .i64 (m : Int) ∧ Hid (Nines K (m + 1)) ∧ Hid (IRow wr g 0 (inc K (m + 1))) ∧ Hid (Below W.heap.size W wr) ∧ g < wr.heap.size) (fun i _ => (intOf i).toNat)
      case atStart => exact ⟨n, Nat.le_refl _, by go_num, Lib.hid (by rw [← HKl.out]; exact Nines.all K), Lib.hid (by rw [← HKl.out, inc_all]; exact HKr.out), HB3, HGlt.out⟩
      case round =>
        obtain ⟨j2, hmn, rfl, hnine, hrow, hbel, hgl⟩ := hrel
        have hmK : j2 < K.length := by have := HKl.out; omega
        have hil := inc_len K (j2 + 1) (by omega)
        have z0 := (hrow.out j2 (by omega)).1
        have z1 := (hrow.out j2 (by omega)).2
        rw [inc_get K j2 hmK (by omega)] at z0
        unfold intV at z0
        rw [Nat.zero_add] at z0 z1
        have hy9 : K[j2] ≤ 9 := HKD.out _ (List.getElem_mem _)
        by_cases h9 : K[j2] = 9
        · have hm0 : j2 ≠ 0 := by
            intro e
            subst e
            have := HKB.out hmK
            omega
          obtain ⟨p, rfl⟩ : ∃ p, j2 = p + 1 := ⟨j2 - 1, by omega⟩
          have hF := Lib.hid (hrow.out.set (p + 1) 0)
          rw [inc_down K (p + 1) hmK] at hF
          have hN2 : Hid (Nines K (p + 1)) := Lib.hid (hnine.out.down hmK h9)
          have hE : intV 0 = .int .i64 0 := rfl
          rw [hE, Nat.zero_add] at hF
          generalize K[p + 1] = y at *
          subst h9
          clear hil hnine hy9 hE hm0 hmK
          go_wp2_with fail
          go_roundw
          case rel => exact ⟨p, by omega, by go_num, hN2, hF, Lib.hid (hbel.out.setCell (p := ⟨g, p + 1, none⟩) HG.out _), by simpa using hgl⟩
          case measure => simp [intOf]
        · have hF := Lib.hid (hrow.out.set j2 (K[j2] + 1))
          have hN := Lib.hid (inc_up K j2 hmK hnine.out)
          have hD2 : Hid (Dig (K.take j2 ++ (K[j2] + 1) :: List.replicate (K.length - (j2 + 1)) 0)) := Lib.hid ((HKD.out.take j2).append (Dig.cons (by omega) (Dig.zeros _)))
          have hlen : Hid ((K.take j2 ++ (K[j2] + 1) :: List.replicate (K.length - (j2 + 1)) 0).length = n + 1) := Lib.hid (by simp; have := HKl.out; omega)
          have hE : intV (K[j2] + 1) = .int .i64 ((K[j2] : Int) + 1) := by unfold intV; congr 1
          rw [inc_set K j2 _ hmK, hE, Nat.zero_add] at hF
          generalize K.take j2 ++ (K[j2] + 1) :: List.replicate (K.length - (j2 + 1)) 0 = R at *
          have b9 : ((K[j2] : Int) == 9) = false := by rw [beq_eq_false_iff_ne]; omega
          generalize K[j2] = y at *
          clear hil hnine hE h9 hmK
          go_wp2_with fail
          go_meet
          exact ⟨R, hlen, hD2, Lib.hid (by rw [hN.out, HV0.out, if_pos h5x]), hF, Lib.hid (hbel.out.setCell (p := ⟨g, j2, none⟩) HG.out _), by simpa using hgl⟩
    · have h5i : ¬ (5 : Int) ≤ (x : Int) := by omega
      go_wp2_with fail
      go_meet
      exact ⟨K, HKl, HKD, Lib.hid (by rw [HV0.out, if_neg h5x]; rfl), HKr, HB3, HGlt.out⟩
  case rest =>
    obtain ⟨R, hRl, hRD, hRN, hRow, hBel, hgl⟩ := hcut
    have CN : Hid (∀ W', ISl W' 0 (some ⟨g, 0, none⟩) cap2 R → Calls Tryd.prog 64 #[.agg #[.bool (decide (m < 0)), .slice (some ⟨g, 0, none⟩) (n + 1) cap2, .int .i64 (-(k : Int))], .bool false] W' fun x w' => x = .returned (.tuple #[.agg #[.int .i64 r.1, .int .i64 r.2], .bool true]) ∧ Below W'.heap.size W' w') := Lib.hid (fun W' hs => by
      have := rNear_any (decide (m < 0)) (some ⟨g, 0, none⟩) cap2 R (-(k : Int)) W' hs hRD.out (by rw [hRl.out]; omega) (by omega) (by omega)
      rw [hRN.out, HNr.out, hRl.out] at this
      exact this)
    have hSl := Lib.hid (hRow.out.sl (base := 0) (cap := cap2) (Nat.zero_le _) hgl (by rw [hRl.out, ← HKl.out]; exact HCap2.out.1) HCap2.out.2)
    have y0' := (hBel.out.cell (p := ⟨q, 0, none⟩) hqW).trans Y0.out
    have HBf := Lib.hid (HB1.out.trans (hBel.out.mono HB1.out.size))
    have HQf : Hid (wc.cell? ⟨w.heap.size + 1, 0, none⟩ = some (.int .i64 0) ∧ wc.cell? ⟨w.heap.size + 1, 1, none⟩ = some (.int .i64 0) ∧ wc.frozen? ⟨w.heap.size + 1, 0, none⟩ = false ∧ wc.frozen? ⟨w.heap.size + 1, 1, none⟩ = false ∧ w.heap.size + 1 < wc.heap.size) := Lib.hid
      ⟨(hBel.out.cell (p := ⟨_, 0, none⟩) hrg).trans Q.out.1, (hBel.out.cell (p := ⟨_, 1, none⟩) hrg).trans Q.out.2.1, (hBel.out.frozen (p := ⟨_, 0, none⟩) hrg).trans Q.out.2.2.1, (hBel.out.frozen (p := ⟨_, 1, none⟩) hrg).trans Q.out.2.2.2.1, Nat.lt_of_lt_of_le hrg hBel.out.size⟩
    clear q0 q1 y0 y1c y2
    go_wp2_with fail
    refine (CN.out _ hSl.out).mono ?_
    rintro e w4 ⟨rfl, hb⟩
    have HB4 := Lib.hid (HBf.out.trans (hb.mono HBf.out.size))
    obtain ⟨k0, k1, k2, k3, k4⟩ := HQf.out
    have q0 := (hb.cell (p := ⟨_, 0, none⟩) k4).trans k0
    have q1 := (hb.cell (p := ⟨_, 1, none⟩) k4).trans k1
    have f0 := (hb.frozen (p := ⟨_, 0, none⟩) k4).trans k2
    have f1 := (hb.frozen (p := ⟨_, 1, none⟩) k4).trans k3
    have k5 : w.heap.size + 1 < w4.heap.size := Nat.lt_of_lt_of_le k4 hb.size
    clear hb k0 k1 k2 k3 k4 CN HQf HBf hSl y0'
    go_wp2_with fail
    refine bodyPost_ret (v := .agg #[.int .i64 r.1, .int .i64 r.2]) (by simp [results, Tryd.results30, go_sem, q0, q1, k5]) rfl ?_
    have HBz := (HB4.out.setCell (p := ⟨w.heap.size + 1, 0, none⟩) (Nat.le_succ _) (.int .i64 r.1)).setCell (p := ⟨w.heap.size + 1, 1, none⟩) (Nat.le_succ _) (.int .i64 r.2)
    exact ⟨rfl, HBz.alloc HBz.size _⟩
end Go.Proofs.YteccjdclkcipbaaDoor
