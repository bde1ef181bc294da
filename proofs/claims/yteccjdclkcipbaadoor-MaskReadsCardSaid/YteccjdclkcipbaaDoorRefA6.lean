/-
  counterpaneref01.Near: what it returns.
-/
import Derived.Test.YteccjdclkcipbaaDoorRefA5
import Derived.Test.YteccjdclkcipbaaDoorNum9
namespace Go.Proofs.YteccjdclkcipbaaDoor
open Go.RowKit

theorem ISl.row {w : World} {A : Option Addr} {cap : Nat} {L : List Nat} (h : ISl w 0 A cap L) (hp : 0 < L.length) : ∃ b off, A = some ⟨b, off, none⟩ ∧ b < w.heap.size ∧ IRow w b off L := by
  obtain ⟨b, off, h1, _, h2, h3⟩ := h.2.2 hp
  exact ⟨b, off, h1, h2, h3⟩
theorem ISl.next {w w' : World} {A : Option Addr} {cap : Nat} {L : List Nat} (h : ISl w 0 A cap L) (hb : Below w.heap.size w w') : ISl w' 0 A cap L := by
  refine ⟨h.1, h.2.1, fun hp => ?_⟩
  obtain ⟨b, off, h1, h0, h2, h3⟩ := h.2.2 hp
  exact ⟨b, off, h1, h0, Nat.lt_of_lt_of_le h2 hb.size, fun j hj => ⟨(hb.cell (p := ⟨_, _, none⟩) h2).trans (h3 j hj).1, (hb.frozen (p := ⟨_, _, none⟩) h2).trans (h3 j hj).2⟩⟩
theorem near2_zero (e : Int) : (near2 0 e).1 = 0 := by
  unfold near2
  split
  · exact rhe_nil _
  · rfl
theorem pNear_def (neg : Bool) (n : Nat) (e : Int) (n1 n2 : Nat) (e1 e2 : Int) (h1 : near1 n e = (n1, e1)) (h2 : near2 n1 e1 = (n2, e2)) : pNear neg n e = nearEnd neg (pTrim n2 e2).1 (pTrim n2 e2).2 := by
  unfold pNear
  rw [h1]
  simp only [h2]
theorem lead_pos {L : List Nat} (h : Lead L) (hp : 0 < L.length) : 0 < natOf L := by
  cases L with
  | nil => simp at hp
  | cons d t => exact Nat.lt_of_lt_of_le (Nat.pow_pos (by decide)) (natOf_ge d t (h d t rfl))
/-- a decimal in its box, and the result's block -/
structure NIn (w : World) (neg : Bool) (v : Value) (e : Int) (w' : World) : Prop where
  box : Lies w' w.heap.size 89 #[.bool neg, v, .int .i64 e]
  res : Lies w' (w.heap.size + 1) 23 #[.int .i64 0, .int .i64 0]
  bel : Below w.heap.size w w'
theorem NIn.next {w w' w'' : World} {neg : Bool} {v : Value} {e : Int} (h : NIn w neg v e w') (hb : Below w'.heap.size w' w'') : NIn w neg v e w'' :=
  ⟨(hb.block _ h.box.lt).trans h.box, (hb.block _ h.res.lt).trans h.res, h.bel.trans (hb.mono h.bel.size)⟩
set_option maxRecDepth 100000 in
set_option maxHeartbeats 12800000 in
theorem rNear_any (neg : Bool) (A : Option Addr) (cap : Nat) (L : List Nat) (e : Int) (w : World) (hs : ISl w 0 A cap L) (hd : Dig L) (hl : L.length ≤ 1000) (he1 : -2000000 ≤ e) (he2 : e ≤ 2000000) :
    Calls Tryd.prog 64 #[.agg #[.bool neg, .slice A L.length cap, .int .i64 e], .bool false] w fun x w' => x = .returned (numOut (pNear neg (natOf L) e)) ∧ Below w.heap.size w w' := by
  obtain ⟨out, hout⟩ : ∃ out, numOut (pNear neg (natOf L) e) = out := ⟨_, rfl⟩
  rw [hout]
  have HN0 : Hid (natOf (bareL L) = natOf L) := Lib.hid (bareL_nat L)
  have HOut := Lib.hid hout
  have HI0 : Hid (NIn w neg (.slice A L.length cap) e ((w.alloc (.cells #[.bool neg, .slice A L.length cap, .int .i64 e] 89)).alloc (.cells #[.int .i64 0, .int .i64 0] 23))) := Lib.hid ⟨(Lies.new _ _ _).alloc _, by have := Lies.new (w.alloc (.cells #[.bool neg, .slice A L.length cap, .int .i64 e] 89)) 23 #[.int .i64 0, .int .i64 0]; simpa using this, ((Below.refl _ w).alloc (Nat.le_refl _) _).alloc (by simp) _⟩
  have HS0 : Hid (ISl ((w.alloc (.cells #[.bool neg, .slice A L.length cap, .int .i64 e] 89)).alloc (.cells #[.int .i64 0, .int .i64 0] 23)) 0 A cap L) := Lib.hid (hs.next (((Below.refl _ w).alloc (Nat.le_refl _) _).alloc (by simp) _))
  have HLd := Lib.hid (lead_bare L)
  have HDg := Lib.hid (bareL_dig hd)
  have hbl : (bareL L).length ≤ 1000 := Nat.le_trans (bareL_len L) hl
  generalize natOf L = N at *
  clear hout hs hd
  go_enter Tryd.func64, Tryd.ntmps64
  go_wp2_with fail
  refine (strip_at A cap _ L _ rfl HS0.out).mono ?_
  rintro x w' ⟨A1, cap1, rfl, hs1, rfl, -⟩
  have HS1 := Lib.hid hs1
  clear hs1 HS0
  generalize bareL L = L1 at *
  have HDL : Hid (dlen N = L1.length) := Lib.hid (by rw [← HN0.out]; exact lead_len HLd.out HDg.out)
  go_upto_if 19 with fail
  go_cut [6, 7] (fun v6 v7 wx => ∃ (L2 : List Nat) (A2 : Option Addr) (c2 n2 : Nat) (e2 : Int), v6 = .slice A2 n2 c2 ∧ v7 = .int .i64 e2 ∧ Hid (L2.length = n2) ∧ Hid (ISl wx 0 A2 c2 L2) ∧ Hid (Dig L2) ∧ Hid (Lead L2) ∧ Hid (near1 N e = (natOf L2, e2)) ∧ Hid (NIn w neg (.slice A L.length cap) e wx) ∧ -2000000 ≤ e2 ∧ e2 ≤ 2001000 ∧ n2 ≤ 1001)
  case first =>
    by_cases h15 : 15 < L1.length
    · have hnear : Hid (near1 N e = (rhe N (L1.length - 15), e + ((L1.length : Int) - 15))) := Lib.hid (by
        unfold near1
        rw [HDL.out, if_pos h15]
        congr 1
        omega)
      obtain ⟨b, off, rfl, hb1, hrow⟩ := HS1.out.row (by omega)
      obtain ⟨k, hk⟩ : ∃ k, L1.length = 15 + k := ⟨L1.length - 15, by omega⟩
      have hkk : Hid ((L1.length : Int) - 15 = (k : Int)) := Lib.hid (by omega)
      have HK := Lib.hid hk
      have HC1 := Lib.hid HS1.out.1
      have HC2 := Lib.hid HS1.out.2.1
      have HRow := Lib.hid hrow
      have HB1 := Lib.hid hb1
      have hk1 : 0 < k := by omega
      clear hrow hb1 hk
      go_wp2_with fail
      rw [hkk.out]
      refine (rcut_some b off cap1 15 L1 k _ HRow.out HB1.out HC1.out HC2.out HDg.out hk1 HK.out (by omega)).mono ?_
      rintro x w2 ⟨A2, c2, ds2, rfl, hs2, hd2, hn2, hl2, hlen2, hb2⟩
      have HI2 := Lib.hid (HI0.out.next hb2)
      have HS2 := Lib.hid hs2
      have HD2 := Lib.hid hd2
      have HL2 := Lib.hid (hl2 HLd.out)
      have HN2 : Hid (near1 N e = (natOf ds2, e + (k : Int))) := Lib.hid (by rw [hnear.out, hn2, HN0.out, ← hkk.out]; congr 2; have := HK.out; omega)
      have hkb : (k : Int) ≤ 985 := by have := HK.out; omega
      clear hs2 hd2 hn2 hl2 hb2 hkk
      go_wp2_with fail
      go_meet
      exact ⟨ds2, A2, c2, ds2.length, e + (k : Int), rfl, rfl, Lib.hid rfl, HS2, HD2, HL2, HN2, HI2, by omega, by omega, by omega⟩
    · have hnear : Hid (near1 N e = (natOf L1, e)) := Lib.hid (by
        unfold near1
        rw [HDL.out, if_neg h15, HN0.out])
      go_wp2_with fail
      go_meet
      exact ⟨L1, A1, cap1, L1.length, e, rfl, rfl, Lib.hid rfl, HS1, HDg, HLd, hnear, HI0, by omega, by omega, by omega⟩
  case rest =>
    obtain ⟨L2, A2, c2, n2, e2, rfl, rfl, hn2, HS2, HD2, HL2, HN2, HI2, hf1, hf2, hn2k⟩ := hcut
    clear HDL HN0 HLd HI0 HDg hbl HS1 hl
    go_upto_region 7 with fail
    go_cut [36] (fun v wx => v = .bool (decide (e2 < -40) && decide (0 < n2)) ∧ wc = wx)
    case first =>
      by_cases h40 : e2 < -40
      · go_wp2_with fail
        go_meet
        exact ⟨by rw [decide_eq_true h40]; simp, rfl⟩
      · go_wp2_with fail
        go_meet
        exact ⟨by rw [decide_eq_false (by omega : ¬ e2 < -40)]; rfl, rfl⟩
    case rest =>
      obtain ⟨rfl, rfl⟩ := hcut
      go_upto_if 36 with fail
      go_cut [6, 7] (fun v6 v7 wx => ∃ (L3 : List Nat) (A3 : Option Addr) (c3 n3 : Nat) (e3 : Int), v6 = .slice A3 n3 c3 ∧ v7 = .int .i64 e3 ∧ Hid (L3.length = n3) ∧ Hid (ISl wx 0 A3 c3 L3) ∧ Hid (Dig L3) ∧ Hid (Lead L3) ∧ Hid (pNear neg N e = nearEnd neg (pTrim (natOf L3) e3).1 (pTrim (natOf L3) e3).2) ∧ Hid (natOf L3 ≤ 1000000000000000) ∧ Hid (NIn w neg (.slice A L.length cap) e wx) ∧ -2000000 ≤ e3 ∧ e3 ≤ 2001000 ∧ n3 ≤ 1002)
      case first =>
        have HBd1 : Hid (natOf L2 ≤ 1000000000000000) := Lib.hid (by have h1 := near1_bd N e; rw [HN2.out] at h1; exact h1)
        by_cases hc : e2 < -40 ∧ 0 < n2
        · obtain ⟨h40, hp⟩ := hc
          obtain ⟨k, hk⟩ : ∃ k : Nat, (k : Int) = -40 - e2 := ⟨(-40 - e2).toNat, by omega⟩
          have hnear : Hid (near2 (natOf L2) e2 = (rhe (natOf L2) k, -40)) := Lib.hid (by
            unfold near2
            rw [if_pos h40]
            congr 2
            omega)
          have hk0 : 0 < k := by omega
          have HKK : Hid (-40 - e2 = (k : Int)) := Lib.hid hk.symm
          have hkb : (k : Int) ≤ 2000000 := by omega
          have HBd2 : Hid (rhe (natOf L2) k ≤ 1000000000000000) := Lib.hid (by have h1 := (near2_bd _ e2 HBd1.out).1; rw [hnear.out] at h1; exact h1)
          have hc : ∀ W, ISl W 0 A2 c2 L2 → Calls Tryd.prog 96 #[.slice A2 L2.length c2, .int .i64 (k : Int), .bool false] W fun e w' => RCutPost L2 k W e w' := by
            intro W hW
            by_cases hle : k ≤ L2.length
            · obtain ⟨b, off, hA2, hb1, hrow⟩ := hW.row (by rw [hn2.out]; exact hp)
              rw [hA2]
              exact rcut_some b off c2 (L2.length - k) L2 k W hrow hb1 hW.1 hW.2.1 HD2.out hk0 (by omega) (by rw [hn2.out]; omega)
            · exact rcut_all A2 c2 L2 k W HD2.out (by omega)
          rw [hn2.out] at hc
          have HC := Lib.hid hc
          clear hk hc
          go_wp2_with fail
          rw [HKK.out]
          refine (HC.out _ HS2.out).mono ?_
          rintro x w3 ⟨A3, c3, ds3, rfl, hs3, hd3, hn3, hl3, hlen3, hb3⟩
          have HI3 := Lib.hid (HI2.out.next hb3)
          have HS3 := Lib.hid hs3
          have HD3 := Lib.hid hd3
          have HL3 := Lib.hid (hl3 HL2.out)
          have HP3 : Hid (pNear neg N e = nearEnd neg (pTrim (natOf ds3) (-40)).1 (pTrim (natOf ds3) (-40)).2) := Lib.hid (by rw [hn3]; exact pNear_def neg N e _ _ _ _ HN2.out hnear.out)
          have HB3 : Hid (natOf ds3 ≤ 1000000000000000) := Lib.hid (by rw [hn3]; exact HBd2.out)
          have hl3k : ds3.length ≤ 1002 := by rw [hn2.out] at hlen3; omega
          clear hs3 hd3 hn3 hl3 hlen3 hb3 HC HKK
          go_wp2_with fail
          go_meet
          exact ⟨ds3, A3, c3, ds3.length, -40, rfl, rfl, Lib.hid rfl, HS3, HD3, HL3, HP3, HB3, HI3, by omega, by omega, hl3k⟩
        · have hP : Hid (pNear neg N e = nearEnd neg (pTrim (natOf L2) e2).1 (pTrim (natOf L2) e2).2) := Lib.hid (by
            by_cases h40 : e2 < -40
            · have h0 : L2.length = 0 := by rw [hn2.out]; omega
              have hz : natOf L2 = 0 := by rw [List.eq_nil_of_length_eq_zero h0]; rfl
              have h2 : near2 0 e2 = (0, -40) := by unfold near2; rw [if_pos h40, rhe_nil]
              rw [pNear_def neg N e _ 0 _ (-40) HN2.out (by rw [hz]; exact h2), hz, pTrim_zero, pTrim_zero]
            · exact pNear_def neg N e _ _ _ _ HN2.out (if_neg h40))
          have hb : (decide (e2 < -40) && decide (0 < n2)) = false := by
            rw [Bool.and_eq_false_iff, decide_eq_false_iff_not, decide_eq_false_iff_not]
            omega
          rw [hb]
          clear hb hc
          go_wp2_with fail
          go_meet
          exact ⟨L2, A2, c2, n2, e2, rfl, rfl, hn2, HS2, HD2, HL2, hP, HBd1, HI2, by omega, by omega, by omega⟩
      case rest =>
        obtain ⟨L3, A3, c3, n3, e3, rfl, rfl, hn3, HS3, HD3, HL3, HP3, HB3, HI3, hg1, hg2, hn3k⟩ := hcut
        clear HN2 HL2 HD2 HS2 HI2 hn2 hf1 hf2 hn2k he1 he2
        go_wp2_with fail
        go_loop [6, 7] (fun v6 v7 => ∃ (m : Nat) (f : Int), v6 = .slice A3 m c3 ∧ v7 = .int .i64 f ∧ m ≤ n3 ∧ Hid (f + (m : Int) = e3 + (n3 : Int)) ∧ Hid (pTrim (natOf L3) e3 = pTrim (natOf (L3.take m)) f)) (fun v _ => match v with | .slice _ n _ => n | _ => 0)
        case atStart => exact ⟨n3, e3, rfl, rfl, Nat.le_refl _, Lib.hid rfl, Lib.hid (by rw [List.take_of_length_le (by rw [hn3.out]; exact Nat.le_refl _)])⟩
        case round =>
          obtain ⟨m, f, rfl, rfl, hm, hf, hq⟩ := hrel
          have hfb : f ≤ 2003000 := by have := hf.out; omega
          have hfa : -2003000 ≤ f := by have := hf.out; omega
          have r0 := HI3.out.res.cell 0
          have r1 := HI3.out.res.cell 1
          have s0 := HI3.out.res.frozen 0
          have s1 := HI3.out.res.frozen 1
          have bx := HI3.out.box.cell 0
          simp at r0 r1 bx
          have HB := Lib.hid HI3.out.bel
          cases m with
          | zero =>
            have hz : Hid (pNear neg N e = some (0, 0)) := Lib.hid (by rw [HP3.out, hq.out]; rfl)
            clear hq
            go_wp2_with fail
            refine bodyPost_ret (v := .tuple #[.agg #[.int .i64 0, .int .i64 0], .bool true]) (by simp [results, Tryd.results64, go_sem, r0, r1]) rfl ?_
            exact ⟨by rw [← HOut.out, hz.out]; rfl, (HB.out.setCell (p := ⟨w.heap.size + 1, 0, none⟩) (by show w.heap.size ≤ w.heap.size + 1; omega) _).setCell (p := ⟨w.heap.size + 1, 1, none⟩) (by show w.heap.size ≤ w.heap.size + 1; omega) _⟩
          | succ p =>
            have hpL : p < L3.length := by rw [hn3.out]; omega
            obtain ⟨b, off, rfl, hb1, hrow⟩ := HS3.out.row (by omega)
            have HRow := Lib.hid hrow
            have y0 := (hrow p hpL).1
            unfold intV at y0
            have hy9 : L3[p] ≤ 9 := HD3.out _ (List.getElem_mem _)
            have hsn : natOf (L3.take (p + 1)) = 10 * natOf (L3.take p) + L3[p] := by rw [List.take_succ_eq_append_getElem hpL, natOf_snoc]
            have hcc : p + 1 ≤ c3 := by have := HS3.out.1; rw [hn3.out] at this; omega
            clear hrow hb1
            by_cases h0 : L3[p] = 0
            · have hpos : 0 < natOf (L3.take p) := by
                rcases Nat.eq_zero_or_pos p with z | z
                · subst z
                  exfalso
                  have h1 := HL3.out.take 1
                  rw [List.take_succ_eq_append_getElem hpL] at h1
                  exact h1 L3[0] [] rfl h0
                · exact lead_pos (HL3.out.take p) (by rw [List.length_take]; omega)
              have hq2 : Hid (pTrim (natOf L3) e3 = pTrim (natOf (L3.take p)) (f + 1)) := Lib.hid (by
                rw [hq.out, pTrim_step _ f (by omega) (by omega), hsn, h0]
                congr 1
                omega)
              have hf2 : Hid (f + 1 + (p : Int) = e3 + (n3 : Int)) := Lib.hid (by have := hf.out; omega)
              rw [h0] at y0
              clear hq hsn hpos h0 hy9
              go_wp2_with fail
              go_round
              case rel => exact ⟨p, f + 1, rfl, rfl, by omega, hf2, hq2⟩
              case measure => simp
            · have b0 : ((L3[p] : Int) == 0) = false := by rw [beq_eq_false_iff_ne]; omega
              have hMp : 0 < natOf (L3.take (p + 1)) := lead_pos (HL3.out.take (p + 1)) (by rw [List.length_take]; omega)
              have hMl : dlen (natOf (L3.take (p + 1))) = p + 1 := by rw [lead_len (HL3.out.take _) (HD3.out.take _), List.length_take]; omega
              have hE : Hid (pNear neg N e = nearEnd neg (natOf (L3.take (p + 1))) f) := Lib.hid (by rw [HP3.out, hq.out, pTrim_stop _ f (by omega)])
              have hMb : Hid (natOf (L3.take (p + 1)) ≤ 1000000000000000) := Lib.hid (Nat.le_trans (natOf_take_le L3 (p + 1)) HB3.out)
              unfold nearEnd at hE
              rw [if_neg (by omega), hMl] at hE
              clear hq hsn h0 hy9 HP3 hMl hMp
              by_cases h40 : 40 < ((p + 1 : Nat) : Int) + f
              · rw [if_pos h40] at hE
                have h41 : 40 < (p : Int) + 1 + f := by omega
                clear h40
                go_wp2_with fail
                refine bodyPost_ret (v := .tuple #[.agg #[.int .i64 0, .int .i64 0], .bool false]) (by simp [results, Tryd.results64, go_sem, r0, r1]) rfl ?_
                exact ⟨by rw [← HOut.out, hE.out]; rfl, (HB.out.setCell (p := ⟨w.heap.size + 1, 0, none⟩) (by show w.heap.size ≤ w.heap.size + 1; omega) _).setCell (p := ⟨w.heap.size + 1, 1, none⟩) (by show w.heap.size ≤ w.heap.size + 1; omega) _⟩
              · rw [if_neg h40] at hE
                have h41 : ¬ 40 < (p : Int) + 1 + f := by omega
                clear h40
                go_wp2_with fail
                go_loop [10, 11] (fun v i => ∃ (j x : Nat), v = .int .i64 x ∧ i = .int .i64 j ∧ j ≤ p + 1 ∧ Hid (x = natOf (L3.take j))) (fun _ i => p + 1 - (intOf i).toNat)
                case atStart => exact ⟨0, 0, rfl, rfl, Nat.zero_le _, Lib.hid (by simp [natOf])⟩
                case round =>
                  obtain ⟨j, x, rfl, rfl, hj, hx⟩ := hrel
                  by_cases hlt : j < p + 1
                  · have hjL : j < L3.length := by omega
                    have z0 := (HRow.out j hjL).1
                    unfold intV at z0
                    have hz9 : L3[j] ≤ 9 := HD3.out _ (List.getElem_mem _)
                    have hx2 : Hid (10 * x + L3[j] = natOf (L3.take (j + 1))) := Lib.hid (by rw [List.take_succ_eq_append_getElem hjL, natOf_snoc, ← hx.out])
                    have hxb : (x : Int) ≤ 1000000000000000 := by
                      have h1 := natOf_take_le L3 j
                      have h2 := HB3.out
                      have h3 := hx.out
                      omega
                    generalize L3[j] = y at *
                    have HC : Hid (10 * (x : Int) + (y : Int) = ((10 * x + y : Nat) : Int)) := Lib.hid (by omega)
                    have hlt2 : (j : Int) < (p : Int) + 1 := by omega
                    clear hjL
                    go_wp2_with fail
                    go_round
                    case rel => exact ⟨j + 1, 10 * x + y, by rw [← HC.out], by go_num, by omega, hx2⟩
                    case measure => simp [intOf]; omega
                  · have hxe : Hid (x = natOf (L3.take (p + 1))) := Lib.hid (by rw [hx.out, show j = p + 1 by omega])
                    have hxb : (x : Int) ≤ 1000000000000000 := by have h1 := hMb.out; have h2 := hxe.out; omega
                    have hlt2 : ¬ (j : Int) < (p : Int) + 1 := by omega
                    rw [← hxe.out] at hE
                    clear hx
                    cases neg
                    · go_wp2_with fail
                      refine bodyPost_ret (v := .tuple #[.agg #[.int .i64 x, .int .i64 f], .bool true]) (by simp [results, Tryd.results64, go_sem, r0, r1]) rfl ?_
                      exact ⟨by rw [← HOut.out, hE.out]; rfl, (HB.out.setCell (p := ⟨w.heap.size + 1, 0, none⟩) (by show w.heap.size ≤ w.heap.size + 1; omega) _).setCell (p := ⟨w.heap.size + 1, 1, none⟩) (by show w.heap.size ≤ w.heap.size + 1; omega) _⟩
                    · go_wp2_with fail
                      refine bodyPost_ret (v := .tuple #[.agg #[.int .i64 (-(x : Int)), .int .i64 f], .bool true]) (by simp [results, Tryd.results64, go_sem, r0, r1]) rfl ?_
                      exact ⟨by rw [← HOut.out, hE.out]; rfl, (HB.out.setCell (p := ⟨w.heap.size + 1, 0, none⟩) (by show w.heap.size ≤ w.heap.size + 1; omega) _).setCell (p := ⟨w.heap.size + 1, 1, none⟩) (by show w.heap.size ≤ w.heap.size + 1; omega) _⟩
end Go.Proofs.YteccjdclkcipbaaDoor
