/-
  counterpaneref01.Text: what it returns.
-/
import Derived.Test.YtcgdeoldgnjdeaaDoorRefD3
import Derived.Test.YtcgdeoldgnjdeaaDoorPlainH
namespace Go.Proofs.YtcgdeoldgnjdeaaDoor
open Go.RowKit

def dgB (d : Nat) : UInt8 := UInt8.ofNat (48 + d)
theorem dl_text (n : Nat) : 0 < n → (dl n).map dgB = Lib.decDigits n := by
  refine dl_ind (fun n => 0 < n → (dl n).map dgB = Lib.decDigits n) (fun h => by omega) (fun n hn ih _ => ?_) n
  rw [dl_step n hn, Lib.decDigits, List.map_append]
  by_cases h : n < 10
  · have h0 : n / 10 = 0 := by omega
    have h1 : n % 10 = n := by omega
    rw [dif_pos h, h0, h1]
    rfl
  · rw [dif_neg h, ih (by omega)]
    rfl
/-- digits behind noughts -/
def padB (e : Int) (s : Bs) : Bs := List.replicate ((-e).toNat + 1 - s.length) 48 ++ s
/-- a point put in -/
def dotB (e : Int) (s : Bs) : Bs := s.take (s.length - (-e).toNat) ++ [46] ++ s.drop (s.length - (-e).toNat)
theorem rText_eq (m e : Int) (t : Bs) (ht : t = Lib.decDigits m.natAbs) :
    nText m e = (if m < 0 then [45] else []) ++ (if e < 0 then dotB e (padB e t) else t ++ List.replicate e.toNat 48) := by
  have hN : nText m e = if 0 ≤ e then (if m < 0 then [45] else []) ++ t ++ List.replicate e.toNat 48
      else if 0 < (t.length : Int) + e then (if m < 0 then [45] else []) ++ t.take ((t.length : Int) + e).toNat ++ [46] ++ t.drop ((t.length : Int) + e).toNat
      else (if m < 0 then [45] else []) ++ [48, 46] ++ List.replicate (-((t.length : Int) + e)).toNat 48 ++ t := by rw [ht]; rfl
  rw [hN]
  clear hN ht
  generalize (if m < 0 then [45] else [] : Bs) = a
  by_cases he : 0 ≤ e
  · rw [if_pos he, if_neg (show ¬ e < 0 by omega), List.append_assoc]
  · rw [if_neg he, if_pos (show e < 0 by omega)]
    obtain ⟨k, hk⟩ : ∃ k : Nat, -e = k := ⟨(-e).toNat, by omega⟩
    unfold dotB padB
    rw [hk]
    simp only [Int.toNat_natCast]
    by_cases hw : 0 < (t.length : Int) + e
    · rw [if_pos hw]
      have h1 : k + 1 - t.length = 0 := by omega
      rw [h1]
      simp only [List.replicate_zero, List.nil_append]
      have h2 : ((t.length : Int) + e).toNat = t.length - k := by omega
      rw [h2]
      simp
    · rw [if_neg hw]
      have h1 : (List.replicate (k + 1 - t.length) (48 : UInt8) ++ t).length - k = 1 := by simp; omega
      rw [h1]
      have h2 : k + 1 - t.length = (-((t.length : Int) + e)).toNat + 1 := by omega
      rw [h2, List.replicate_succ]
      simp
theorem pRight_bd {m e : Int} (h : pRight m e = true) : -9223372036854775808 ≤ m ∧ m ≤ 9223372036854775807 := by
  by_cases hz : m = 0
  · omega
  · have := pRight_of h hz
    omega
set_option maxRecDepth 100000 in
set_option maxHeartbeats 12800000 in
theorem rNText_right (m e : Int) (w : World) (h1 : -9223372036854775808 ≤ m) (h2 : m ≤ 9223372036854775807) (hR : pRight m e = true) :
    Calls Tryd.prog 103 #[numV m e] w fun x w' => x = .returned (.string ⟨(nText m e).toArray⟩) ∧ Below w.heap.size w w' := by
  have CR := Lib.hid (fun W => rRight_any m e W h1 h2)
  rw [hR] at CR
  have T0 := Lib.hid (NumIn.start w m e)
  by_cases hz : m = 0
  · subst hz
    have he : e = 0 := by unfold pRight at hR; rw [if_pos rfl] at hR; simpa using hR
    subst he
    have h0 : nText 0 0 = [48] := by
      have h1 : nText 0 0 = ([] : Bs) ++ Lib.decDigits 0 ++ [] := rfl
      rw [h1, Lib.decDigits]
      rfl
    rw [h0]
    go_enter Tryd.func103, Tryd.ntmps103
    go_wp2_with fail
    refine (CR.out _).mono ?_
    rintro x w1 ⟨rfl, hb⟩
    have T1 := Lib.hid (T0.out.next hb)
    obtain ⟨g0, g1, g2, g3⟩ := T1.out
    clear hb
    go_wp2_with fail
    go_ret
    exact ⟨rfl, g3⟩
  have ke : -40 ≤ e ∧ e ≤ 40 := by have := pRight_of hR hz; omega
  obtain ⟨ke1, ke2⟩ := ke
  have CD := Lib.hid (fun W => digits_any m W h1 h2)
  have ht := (dl_text m.natAbs (by omega))
  have HN := Lib.hid (rText_eq m e _ ht)
  have HD := Lib.hid (dl_dig m.natAbs)
  have hlen : (dl m.natAbs).length ≤ 20 := dl_len_le _ (by omega)
  have bz : (m == 0) = false := by rw [beq_eq_false_iff_ne]; exact hz
  generalize nText m e = r at *
  generalize dl m.natAbs = D at *
  clear ht h1 h2 hR hz
  go_enter Tryd.func103, Tryd.ntmps103
  go_wp2_with fail
  refine (CR.out _).mono ?_
  rintro x w1 ⟨rfl, hb⟩
  have T1 := Lib.hid (T0.out.next hb)
  clear hb T0 CR
  obtain ⟨g0, g1, g2, -⟩ := T1.out
  go_wp2_with fail
  refine (CD.out _).mono ?_
  rintro x w2 ⟨v, rfl, hown, hb⟩
  have T2 := Lib.hid (T1.out.next hb)
  clear hb T1 CD g0 g1 g2
  obtain ⟨A, c, rfl, hsl⟩ := hown.isl
  have HS := Lib.hid hsl
  clear hown hsl
  obtain ⟨g0, g1, g2, -⟩ := T2.out
  go_wp2_with fail
  go_loopw [4, 5] (fun s i wr => ∃ (k q : Nat), k ≤ D.length ∧ s = .string ⟨((D.take k).map dgB).toArray⟩ ∧ i = .int .i64 k ∧ wr = w2.drewN q) (fun _ i _ => D.length - (intOf i).toNat)
  case atStart => exact ⟨0, 0, Nat.zero_le _, rfl, rfl, rfl⟩
  case round =>
    obtain ⟨k, q, hk, rfl, rfl, rfl⟩ := hrel
    by_cases hlt : k < D.length
    · obtain ⟨b, off, rfl, -, -, hr⟩ := HS.out.2.2 (by omega)
      have x0 := (hr k hlt).1
      unfold intV at x0
      have hd9 : D[k] ≤ 9 := HD.out _ (List.getElem_mem hlt)
      have HT : Hid ((D.take k).map dgB ++ [dgB D[k]] = (D.take (k + 1)).map dgB) := Lib.hid (by rw [List.take_succ_eq_append_getElem hlt, List.map_append]; rfl)
      generalize D[k] = d at *
      have hs1 : ((D.take k).map dgB).length ≤ 20 := by simp; omega
      generalize (D.take k).map dgB = s1 at *
      have hd0 : (0 : Int) ≤ (d : Int) := by omega
      have hlI : (k : Int) < (D.length : Int) := by omega
      have hkI : (0 : Int) ≤ (k : Int) := by omega
      have hten : d = 0 ∨ d = 1 ∨ d = 2 ∨ d = 3 ∨ d = 4 ∨ d = 5 ∨ d = 6 ∨ d = 7 ∨ d = 8 ∨ d = 9 := by omega
      clear hr hd0 hd9
      rcases hten with rfl | rfl | rfl | rfl | rfl | rfl | rfl | rfl | rfl | rfl
      all_goals go_wp2_with fail
      all_goals go_region
      all_goals go_wp2_with fail
      all_goals go_roundw
      all_goals first | exact ⟨k + 1, _, by omega, by rw [← HT.out]; rfl, by go_num, rfl⟩ | (simp [intOf]; omega)
    · have hkD : k = D.length := by omega
      subst hkD
      rw [List.take_length]
      have hlt2 : ¬ ((D.length : Int) < (D.length : Int)) := by omega
      have hlt' : (D.map dgB).length ≤ 20 := by simp; omega
      have T3 : Hid (NumIn w m e (w2.drewN q)) := Lib.hid (T2.out.next (below_drewN (Below.refl _ _) q))
      generalize D.map dgB = t at *
      generalize w2.drewN q = w3 at *
      clear HS HD g0 g1 g2 T2
      obtain ⟨g0, g1, g2, -⟩ := T3.out
      by_cases he : e < 0
      · rw [if_pos he] at HN
        have he1 : decide (e < 0) = true := decide_eq_true he
        have he2 : decide (0 < e) = false := decide_eq_false (by omega)
        go_wp2_with fail
        go_loopw [4, 6] (fun s i wr => s = .string ⟨t.toArray⟩ ∧ i = .int .i64 0 ∧ Hid (NumIn w m e wr)) (fun _ _ _ => 0)
        case atStart => exact ⟨rfl, rfl, T3⟩
        case round =>
          obtain ⟨rfl, rfl, T4⟩ := hrel
          clear g0 g1 g2 T3
          obtain ⟨g0, g1, g2, -⟩ := T4.out
          go_wp2_with fail
          go_loopw [4] (fun s wr => ∃ k : Nat, k ≤ (-e).toNat + 1 - t.length ∧ s = .string ⟨(List.replicate k 48 ++ t).toArray⟩ ∧ Hid (NumIn w m e wr)) (fun s _ => match s with | .string b => (-e).toNat + 1 - b.size | _ => 0)
          case atStart => exact ⟨0, Nat.zero_le _, by simp, T4⟩
          case round =>
            obtain ⟨k, hk, rfl, T5⟩ := hrel
            clear g0 g1 g2 T4
            obtain ⟨g0, g1, g2, -⟩ := T5.out
            by_cases hlt : k < (-e).toNat + 1 - t.length
            · have hlI : ((List.replicate k 48 ++ t : Bs).length : Int) ≤ -e := by simp; omega
              have hsz : (List.replicate k 48 ++ t : Bs).length = k + t.length := by simp
              have HT : Hid (48 :: (List.replicate k 48 ++ t) = (List.replicate (k + 1) 48 ++ t : Bs)) := Lib.hid (by rw [List.replicate_succ]; rfl)
              have HL : Hid ((List.replicate k 48 ++ t : Bs).length ≤ (-e).toNat) := Lib.hid (by rw [hsz]; omega)
              generalize (List.replicate k 48 ++ t : Bs) = s1 at *
              go_wp2_with fail
              all_goals go_roundw
              case rel => exact ⟨k + 1, by omega, by rw [← HT.out], T5⟩
              case measure => have := HL.out; simp [ByteArray.size]; omega
            · have hkE : k = (-e).toNat + 1 - t.length := by omega
              have hd : List.replicate k 48 ++ t = padB e t := by subst hkE; rfl
              rw [hd]
              have hsz : (padB e t).length = k + t.length := by rw [← hd]; simp
              have HD2 : Hid (dotB e (padB e t) = (padB e t).take ((padB e t).length - (-e).toNat) ++ [46] ++ (padB e t).drop ((padB e t).length - (-e).toNat)) := Lib.hid rfl
              generalize dotB e (padB e t) = dd at *
              generalize padB e t = s1 at *
              obtain ⟨j, hj⟩ : ∃ j, s1.length - (-e).toNat = j := ⟨_, rfl⟩
              rw [hj] at HD2
              have j1 : (s1.length : Int) + e = j := by omega
              have j2 : IntKind.i64.wrap ((s1.length : Int) + e) = j := by rw [j1]; exact IntWalk.i64_in _ (by omega)
              have j3 : (0 : Int) ≤ (j : Int) := by omega
              have j4 : (j : Int) ≤ (s1.length : Int) := by omega
              have hlI : ¬ ((s1.length : Int) ≤ -e) := by omega
              have hs1 : s1.length ≤ 100 := by omega
              have ht1 : (s1.take j).length ≤ 100 := by simp; omega
              have ht2 : (s1.drop j).length ≤ 100 := by simp; omega
              have HD3 : Hid (dd = s1.take j ++ 46 :: s1.drop j) := Lib.hid (by rw [HD2.out, List.append_assoc]; rfl)
              clear hj hkE hd hlt hk hsz HD2
              by_cases hm : m < 0
              · rw [if_pos hm] at HN
                have hm1 : decide (m < 0) = true := decide_eq_true hm
                go_wp2_with fail
                go_region
                all_goals go_wp2_with fail
                all_goals go_ret
                exact ⟨by rw [HN.out, HD3.out]; rfl, T5.out.2.2.2.drew⟩
              · rw [if_neg hm] at HN
                have hm1 : decide (m < 0) = false := decide_eq_false hm
                go_wp2_with fail
                go_region
                all_goals go_wp2_with fail
                all_goals go_ret
                exact ⟨by rw [HN.out, HD3.out]; rfl, T5.out.2.2.2.drew⟩
      · rw [if_neg he] at HN
        have he1 : decide (e < 0) = false := decide_eq_false he
        go_wp2_with fail
        go_loopw [4, 6] (fun s i wr => ∃ k : Nat, k ≤ e.toNat ∧ s = .string ⟨(t ++ List.replicate k 48).toArray⟩ ∧ i = .int .i64 k ∧ Hid (NumIn w m e wr)) (fun _ i _ => e.toNat - (intOf i).toNat)
        case atStart => exact ⟨0, Nat.zero_le _, by simp, rfl, T3⟩
        case round =>
          obtain ⟨k, hk, rfl, rfl, T4⟩ := hrel
          clear g0 g1 g2 T3
          obtain ⟨g0, g1, g2, -⟩ := T4.out
          by_cases hlt : (k : Int) < e
          · have HT : Hid (t ++ List.replicate k 48 ++ [48] = (t ++ List.replicate (k + 1) 48 : Bs)) := Lib.hid (by rw [List.replicate_succ', List.append_assoc])
            have hsz : (t ++ List.replicate k 48 : Bs).length ≤ 100 := by simp; omega
            generalize (t ++ List.replicate k 48 : Bs) = s1 at *
            go_wp2_with fail
            all_goals go_roundw
            case rel => exact ⟨k + 1, by omega, by rw [← HT.out], by go_num, T4⟩
            case measure => simp [intOf]; omega
          · have hkE : e.toNat = k := by omega
            rw [hkE] at HN
            have hsz : (t ++ List.replicate k 48 : Bs).length ≤ 100 := by simp; omega
            generalize (t ++ List.replicate k 48 : Bs) = s1 at *
            by_cases hm : m < 0
            · rw [if_pos hm] at HN
              have hm1 : decide (m < 0) = true := decide_eq_true hm
              go_wp2_with fail
              go_ret
              exact ⟨by rw [HN.out]; rfl, T4.out.2.2.2⟩
            · rw [if_neg hm] at HN
              have hm1 : decide (m < 0) = false := decide_eq_false hm
              go_wp2_with fail
              go_ret
              exact ⟨by rw [HN.out]; rfl, T4.out.2.2.2⟩
end Go.Proofs.YtcgdeoldgnjdeaaDoor
