/-
  counterpaneref01.Text; counterpaneref02.ToNum, ToText, ToTruth, FaultText, Show of right values.
-/
import Derived.Test.YteccjdclkcipbaaGreatDoorRefD3
import Derived.Test.YteccjdclkcipbaaGreatDoorPlainH
import Derived.Test.YteccjdclkcipbaaGreatDoorRefB4
import Derived.Test.YteccjdclkcipbaaGreatDoorVal12
import Derived.Test.YteccjdclkcipbaaGreatDoorShownP
namespace Go.Proofs.YteccjdclkcipbaaGreatDoor
open Go.RowKit

def dgB (d : Nat) : UInt8 := UInt8.ofNat (48 + d)
theorem dl_text (n : Nat) : 0 < n → (dl n).map dgB = Lib.decDigits n := by
  refine dl_ind (fun n => 0 < n → (dl n).map dgB = Lib.decDigits n) (fun h => by omega) (fun n hn ih _ => ?_) n
  rw [dl_step n hn, Lib.decDigits, List.map_append]
  by_cases h : n < 10
  · have h0 : n / 10 = 0 := by omega
    have h1 : n % 10 = n := by omega
    rw [dif_pos h, h0, h1]
    rfl
  · rw [dif_neg h, ih (by omega)]
    rfl
/-- digits behind noughts -/
def padB (e : Int) (s : Bs) : Bs := List.replicate ((-e).toNat + 1 - s.length) 48 ++ s
/-- a point put in -/
def dotB (e : Int) (s : Bs) : Bs := s.take (s.length - (-e).toNat) ++ [46] ++ s.drop (s.length - (-e).toNat)
theorem rText_eq (m e : Int) (t : Bs) (ht : t = Lib.decDigits m.natAbs) :
    nText m e = (if m < 0 then [45] else []) ++ (if e < 0 then dotB e (padB e t) else t ++ List.replicate e.toNat 48) := by
  have hN : nText m e = if 0 ≤ e then (if m < 0 then [45] else []) ++ t ++ List.replicate e.toNat 48
      else if 0 < (t.length : Int) + e then (if m < 0 then [45] else []) ++ t.take ((t.length : Int) + e).toNat ++ [46] ++ t.drop ((t.length : Int) + e).toNat
      else (if m < 0 then [45] else []) ++ [48, 46] ++ List.replicate (-((t.length : Int) + e)).toNat 48 ++ t := by rw [ht]; rfl
  rw [hN]
  clear hN ht
  generalize (if m < 0 then [45] else [] : Bs) = a
  by_cases he : 0 ≤ e
  · rw [if_pos he, if_neg (show ¬ e < 0 by omega), List.append_assoc]
  · rw [if_neg he, if_pos (show e < 0 by omega)]
    obtain ⟨k, hk⟩ : ∃ k : Nat, -e = k := ⟨(-e).toNat, by omega⟩
    unfold dotB padB
    rw [hk]
    simp only [Int.toNat_natCast]
    by_cases hw : 0 < (t.length : Int) + e
    · rw [if_pos hw]
      have h1 : k + 1 - t.length = 0 := by omega
      rw [h1]
      simp only [List.replicate_zero, List.nil_append]
      have h2 : ((t.length : Int) + e).toNat = t.length - k := by omega
      rw [h2]
      simp
    · rw [if_neg hw]
      have h1 : (List.replicate (k + 1 - t.length) (48 : UInt8) ++ t).length - k = 1 := by simp; omega
      rw [h1]
      have h2 : k + 1 - t.length = (-((t.length : Int) + e)).toNat + 1 := by omega
      rw [h2, List.replicate_succ]
      simp
theorem pRight_bd {m e : Int} (h : pRight m e = true) : -9223372036854775808 ≤ m ∧ m ≤ 9223372036854775807 := by
  by_cases hz : m = 0
  · omega
  · have := pRight_of h hz
    omega
set_option maxRecDepth 100000 in
set_option maxHeartbeats 12800000 in
theorem rNText_right (m e : Int) (w : World) (h1 : -9223372036854775808 ≤ m) (h2 : m ≤ 9223372036854775807) (hR : pRight m e = true) :
    Calls Tryz.prog 87 #[numV m e] w fun x w' => x = .returned (.string ⟨(nText m e).toArray⟩) ∧ Below w.heap.size w w' := by
  have CR := Lib.hid (fun W => rRight_any m e W h1 h2)
  rw [hR] at CR
  have T0 := Lib.hid (NumIn.start w m e)
  by_cases hz : m = 0
  · subst hz
    have he : e = 0 := by unfold pRight at hR; rw [if_pos rfl] at hR; simpa using hR
    subst he
    have h0 : nText 0 0 = [48] := by
      have h1 : nText 0 0 = ([] : Bs) ++ Lib.decDigits 0 ++ [] := rfl
      rw [h1, Lib.decDigits]
      rfl
    rw [h0]
    go_enter Tryz.func87, Tryz.ntmps87
    go_wp2_with fail
    refine (CR.out _).mono ?_
    rintro x w1 ⟨rfl, hb⟩
    have T1 := Lib.hid (T0.out.next hb)
    obtain ⟨g0, g1, g2, g3⟩ := T1.out
    clear hb
    go_wp2_with fail
    go_ret
    exact ⟨rfl, g3⟩
  have ke : -40 ≤ e ∧ e ≤ 40 := by have := pRight_of hR hz; omega
  obtain ⟨ke1, ke2⟩ := ke
  have CD := Lib.hid (fun W => digits_any m W h1 h2)
  have ht := (dl_text m.natAbs (by omega))
  have HN := Lib.hid (rText_eq m e _ ht)
  have HD := Lib.hid (dl_dig m.natAbs)
  have hlen : (dl m.natAbs).length ≤ 20 := dl_len_le _ (by omega)
  have bz : (m == 0) = false := by rw [beq_eq_false_iff_ne]; exact hz
  generalize nText m e = r at *
  generalize dl m.natAbs = D at *
  clear ht h1 h2 hR hz
  go_enter Tryz.func87, Tryz.ntmps87
  go_wp2_with fail
  refine (CR.out _).mono ?_
  rintro x w1 ⟨rfl, hb⟩
  have T1 := Lib.hid (T0.out.next hb)
  clear hb T0 CR
  obtain ⟨g0, g1, g2, -⟩ := T1.out
  go_wp2_with fail
  refine (CD.out _).mono ?_
  rintro x w2 ⟨v, rfl, hown, hb⟩
  have T2 := Lib.hid (T1.out.next hb)
  clear hb T1 CD g0 g1 g2
  obtain ⟨A, c, rfl, hsl⟩ := hown.isl
  have HS := Lib.hid hsl
  clear hown hsl
  obtain ⟨g0, g1, g2, -⟩ := T2.out
  go_wp2_with fail
  go_loopw [4, 5] (fun s i wr => ∃ (k q : Nat), k ≤ D.length ∧ s = .string ⟨((D.take k).map dgB).toArray⟩ ∧ i = .int .i64 k ∧ wr = w2.drewN q) (fun _ i _ => D.length - (intOf i).toNat)
  case atStart => exact ⟨0, 0, Nat.zero_le _, rfl, rfl, rfl⟩
  case round =>
    obtain ⟨k, q, hk, rfl, rfl, rfl⟩ := hrel
    by_cases hlt : k < D.length
    · obtain ⟨b, off, rfl, -, -, hr⟩ := HS.out.2.2 (by omega)
      have x0 := (hr k hlt).1
      unfold intV at x0
      have hd9 : D[k] ≤ 9 := HD.out _ (List.getElem_mem hlt)
      have HT : Hid ((D.take k).map dgB ++ [dgB D[k]] = (D.take (k + 1)).map dgB) := Lib.hid (by rw [List.take_succ_eq_append_getElem hlt, List.map_append]; rfl)
      generalize D[k] = d at *
      have hs1 : ((D.take k).map dgB).length ≤ 20 := by simp; omega
      generalize (D.take k).map dgB = s1 at *
      have hd0 : (0 : Int) ≤ (d : Int) := by omega
      have hlI : (k : Int) < (D.length : Int) := by omega
      have hkI : (0 : Int) ≤ (k : Int) := by omega
      have hten : d = 0 ∨ d = 1 ∨ d = 2 ∨ d = 3 ∨ d = 4 ∨ d = 5 ∨ d = 6 ∨ d = 7 ∨ d = 8 ∨ d = 9 := by omega
      clear hr hd0 hd9
      rcases hten with rfl | rfl | rfl | rfl | rfl | rfl | rfl | rfl | rfl | rfl
      all_goals go_wp2_with fail
      all_goals go_region
      all_goals go_wp2_with fail
      all_goals go_roundw
      all_goals first | exact ⟨k + 1, _, by omega, by rw [← HT.out]; rfl, by go_num, rfl⟩ | (simp [intOf]; omega)
    · have hkD : k = D.length := by omega
      subst hkD
      rw [List.take_length]
      have hlt2 : ¬ ((D.length : Int) < (D.length : Int)) := by omega
      have hlt' : (D.map dgB).length ≤ 20 := by simp; omega
      have T3 : Hid (NumIn w m e (w2.drewN q)) := Lib.hid (T2.out.next (below_drewN (Below.refl _ _) q))
      generalize D.map dgB = t at *
      generalize w2.drewN q = w3 at *
      clear HS HD g0 g1 g2 T2
      obtain ⟨g0, g1, g2, -⟩ := T3.out
      by_cases he : e < 0
      · rw [if_pos he] at HN
        have he1 : decide (e < 0) = true := decide_eq_true he
        have he2 : decide (0 < e) = false := decide_eq_false (by omega)
        go_wp2_with fail
        go_loopw [4, 6] (fun s i wr => s = .string ⟨t.toArray⟩ ∧ i = .int .i64 0 ∧ Hid (NumIn w m e wr)) (fun _ _ _ => 0)
        case atStart => exact ⟨rfl, rfl, T3⟩
        case round =>
          obtain ⟨rfl, rfl, T4⟩ := hrel
          clear g0 g1 g2 T3
          obtain ⟨g0, g1, g2, -⟩ := T4.out
          go_wp2_with fail
          go_loopw [4] (fun s wr => ∃ k : Nat, k ≤ (-e).toNat + 1 - t.length ∧ s = .string ⟨(List.replicate k 48 ++ t).toArray⟩ ∧ Hid (NumIn w m e wr)) (fun s _ => match s with | .string b => (-e).toNat + 1 - b.size | _ => 0)
          case atStart => exact ⟨0, Nat.zero_le _, by simp, T4⟩
          case round =>
            obtain ⟨k, hk, rfl, T5⟩ := hrel
            clear g0 g1 g2 T4
            obtain ⟨g0, g1, g2, -⟩ := T5.out
            by_cases hlt : k < (-e).toNat + 1 - t.length
            · have hlI : ((List.replicate k 48 ++ t : Bs).length : Int) ≤ -e := by simp; omega
              have hsz : (List.replicate k 48 ++ t : Bs).length = k + t.length := by simp
              have HT : Hid (48 :: (List.replicate k 48 ++ t) = (List.replicate (k + 1) 48 ++ t : Bs)) := Lib.hid (by rw [List.replicate_succ]; rfl)
              have HL : Hid ((List.replicate k 48 ++ t : Bs).length ≤ (-e).toNat) := Lib.hid (by rw [hsz]; omega)
              generalize (List.replicate k 48 ++ t : Bs) = s1 at *
              go_wp2_with fail
              all_goals go_roundw
              case rel => exact ⟨k + 1, by omega, by rw [← HT.out], T5⟩
              case measure => have := HL.out; simp [ByteArray.size]; omega
            · have hkE : k = (-e).toNat + 1 - t.length := by omega
              have hd : List.replicate k 48 ++ t = padB e t := by subst hkE; rfl
              rw [hd]
              have hsz : (padB e t).length = k + t.length := by rw [← hd]; simp
              have HD2 : Hid (dotB e (padB e t) = (padB e t).take ((padB e t).length - (-e).toNat) ++ [46] ++ (padB e t).drop ((padB e t).length - (-e).toNat)) := Lib.hid rfl
              generalize dotB e (padB e t) = dd at *
              generalize padB e t = s1 at *
              obtain ⟨j, hj⟩ : ∃ j, s1.length - (-e).toNat = j := ⟨_, rfl⟩
              rw [hj] at HD2
              have j1 : (s1.length : Int) + e = j := by omega
              have j2 : IntKind.i64.wrap ((s1.length : Int) + e) = j := by rw [j1]; exact IntWalk.i64_in _ (by omega)
              have j3 : (0 : Int) ≤ (j : Int) := by omega
              have j4 : (j : Int) ≤ (s1.length : Int) := by omega
              have hlI : ¬ ((s1.length : Int) ≤ -e) := by omega
              have hs1 : s1.length ≤ 100 := by omega
              have ht1 : (s1.take j).length ≤ 100 := by simp; omega
              have ht2 : (s1.drop j).length ≤ 100 := by simp; omega
              have HD3 : Hid (dd = s1.take j ++ 46 :: s1.drop j) := Lib.hid (by rw [HD2.out, List.append_assoc]; rfl)
              clear hj hkE hd hlt hk hsz HD2
              by_cases hm : m < 0
              · rw [if_pos hm] at HN
                have hm1 : decide (m < 0) = true := decide_eq_true hm
                go_wp2_with fail
                go_region
                all_goals go_wp2_with fail
                all_goals go_ret
                exact ⟨by rw [HN.out, HD3.out]; rfl, T5.out.2.2.2.drew⟩
              · rw [if_neg hm] at HN
                have hm1 : decide (m < 0) = false := decide_eq_false hm
                go_wp2_with fail
                go_region
                all_goals go_wp2_with fail
                all_goals go_ret
                exact ⟨by rw [HN.out, HD3.out]; rfl, T5.out.2.2.2.drew⟩
      · rw [if_neg he] at HN
        have he1 : decide (e < 0) = false := decide_eq_false he
        go_wp2_with fail
        go_loopw [4, 6] (fun s i wr => ∃ k : Nat, k ≤ e.toNat ∧ s = .string ⟨(t ++ List.replicate k 48).toArray⟩ ∧ i = .int .i64 k ∧ Hid (NumIn w m e wr)) (fun _ i _ => e.toNat - (intOf i).toNat)
        case atStart => exact ⟨0, Nat.zero_le _, by simp, rfl, T3⟩
        case round =>
          obtain ⟨k, hk, rfl, rfl, T4⟩ := hrel
          clear g0 g1 g2 T3
          obtain ⟨g0, g1, g2, -⟩ := T4.out
          by_cases hlt : (k : Int) < e
          · have HT : Hid (t ++ List.replicate k 48 ++ [48] = (t ++ List.replicate (k + 1) 48 : Bs)) := Lib.hid (by rw [List.replicate_succ', List.append_assoc])
            have hsz : (t ++ List.replicate k 48 : Bs).length ≤ 100 := by simp; omega
            generalize (t ++ List.replicate k 48 : Bs) = s1 at *
            go_wp2_with fail
            all_goals go_roundw
            case rel => exact ⟨k + 1, by omega, by rw [← HT.out], by go_num, T4⟩
            case measure => simp [intOf]; omega
          · have hkE : e.toNat = k := by omega
            rw [hkE] at HN
            have hsz : (t ++ List.replicate k 48 : Bs).length ≤ 100 := by simp; omega
            generalize (t ++ List.replicate k 48 : Bs) = s1 at *
            by_cases hm : m < 0
            · rw [if_pos hm] at HN
              have hm1 : decide (m < 0) = true := decide_eq_true hm
              go_wp2_with fail
              go_ret
              exact ⟨by rw [HN.out]; rfl, T4.out.2.2.2⟩
            · rw [if_neg hm] at HN
              have hm1 : decide (m < 0) = false := decide_eq_false hm
              go_wp2_with fail
              go_ret
              exact ⟨by rw [HN.out]; rfl, T4.out.2.2.2⟩
theorem right_forms (v : Val) (hR : vRight v = true) : v = ⟨0, 0, 0, [], false, 0⟩ ∨ (∃ m e, v = ⟨1, m, e, [], false, 0⟩ ∧ pRight m e = true) ∨ (∃ t, v = ⟨2, 0, 0, t, false, 0⟩ ∧ t.length ≤ 255)
    ∨ (∃ b, v = ⟨3, 0, 0, [], b, 0⟩) ∨ (∃ f, v = ⟨4, 0, 0, [], false, f⟩ ∧ 1 ≤ f ∧ f ≤ 9) := by
  rcases kinds_right' hR with h | h | h | h | h
  · exact .inl ((vSame_iff _ _).1 ((vRight_blank v h).symm.trans hR))
  · have k := (vRight_num v h).symm.trans hR
    obtain ⟨k1, k2⟩ := Bool.and_eq_true_iff.1 k
    exact .inr (.inl ⟨_, _, (vSame_iff _ _).1 k2, k1⟩)
  · have k := (vSame_iff _ _).1 ((vRight_text v h).symm.trans hR)
    rcases Nat.lt_or_ge 255 v.text.length with hl | hl
    · have : vText v.text = vBad 2 := if_pos hl
      rw [this] at k
      rw [k] at h
      exact absurd h (by decide)
    · have : vText v.text = ⟨2, 0, 0, v.text, false, 0⟩ := if_neg (by omega)
      rw [this] at k
      exact .inr (.inr (.inl ⟨_, k, hl⟩))
  · exact .inr (.inr (.inr (.inl ⟨_, (vSame_iff _ _).1 ((vRight_truth v h).symm.trans hR)⟩)))
  · have k := (vSame_iff _ _).1 ((vRight_fault v h).symm.trans hR)
    refine .inr (.inr (.inr (.inr ⟨v.fault, ?_, ?_⟩)))
    · rw [k]
      show (⟨4, 0, 0, [], false, if v.fault < 1 ∨ 9 < v.fault then 9 else v.fault⟩ : Val) = ⟨4, 0, 0, [], false, (vBad v.fault).fault⟩
      rfl
    · rw [k]
      show 1 ≤ (if v.fault < 1 ∨ 9 < v.fault then 9 else v.fault) ∧ (if v.fault < 1 ∨ 9 < v.fault then 9 else v.fault) ≤ 9
      split <;> omega
set_option maxRecDepth 100000 in
set_option maxHeartbeats 6400000 in
theorem rToText_right (v : Val) (w : World) (hR : vRight v = true) :
    Calls Tryz.prog 64 #[valV v] w fun x w' => x = .returned (.tuple #[.string ⟨(vToText v).1.toArray⟩, .int .i64 (vToText v).2]) ∧ Below w.heap.size w w' := by
  rcases right_forms v hR with rfl | ⟨m, e, rfl, h⟩ | ⟨t, rfl, h⟩ | ⟨b, rfl⟩ | ⟨f, rfl, h1, h2⟩
  · clear hR
    go_enter Tryz.func64, Tryz.ntmps64
    go_wp2_with fail
    refine bodyPost_ret (v := .tuple #[.string ⟨#[]⟩, .int .i64 0]) (by simp [results, Tryz.results64, go_sem]) rfl ?_
    exact ⟨rfl, (Below.refl _ w).alloc (Nat.le_refl _) _⟩
  · clear hR
    have hN : vToText ⟨1, m, e, [], false, 0⟩ = (nText m e, 0) := rfl
    rw [hN]
    have C := Lib.hid (fun W => rNText_right m e W (pRight_bd h).1 (pRight_bd h).2 h)
    have HB : Hid (Below w.heap.size w (w.alloc (.cells (valC ⟨1, m, e, [], false, 0⟩) 38))) := Lib.hid ((Below.refl _ w).alloc (Nat.le_refl _) _)
    generalize nText m e = s at *
    go_enter Tryz.func64, Tryz.ntmps64
    go_wp2_with fail
    refine (C.out _).mono ?_
    rintro x w1 ⟨rfl, hb⟩
    have HB1 : Hid (Below w.heap.size w w1) := Lib.hid (HB.out.trans (hb.mono HB.out.size))
    clear hb
    go_wp2_with fail
    refine bodyPost_ret (v := .tuple #[.string ⟨s.toArray⟩, .int .i64 0]) (by simp [results, Tryz.results64, go_sem]) rfl ?_
    exact ⟨rfl, HB1.out⟩
  · clear hR
    have hN : vToText ⟨2, 0, 0, t, false, 0⟩ = (t, 0) := rfl
    rw [hN]
    go_enter Tryz.func64, Tryz.ntmps64
    go_wp2_with fail
    refine bodyPost_ret (v := .tuple #[.string ⟨t.toArray⟩, .int .i64 0]) (by simp [results, Tryz.results64, go_sem]) rfl ?_
    exact ⟨rfl, (Below.refl _ w).alloc (Nat.le_refl _) _⟩
  · clear hR
    cases b
    · go_enter Tryz.func64, Tryz.ntmps64
      go_wp2_with fail
      refine bodyPost_ret (v := .tuple #[.string ⟨#[70, 65, 76, 83, 69]⟩, .int .i64 0]) (by simp [results, Tryz.results64, go_sem]) rfl ?_
      exact ⟨rfl, (Below.refl _ w).alloc (Nat.le_refl _) _⟩
    · go_enter Tryz.func64, Tryz.ntmps64
      go_wp2_with fail
      refine bodyPost_ret (v := .tuple #[.string ⟨#[84, 82, 85, 69]⟩, .int .i64 0]) (by simp [results, Tryz.results64, go_sem]) rfl ?_
      exact ⟨rfl, (Below.refl _ w).alloc (Nat.le_refl _) _⟩
  · clear hR
    have hN : vToText ⟨4, 0, 0, [], false, f⟩ = ([], f) := rfl
    rw [hN]
    go_enter Tryz.func64, Tryz.ntmps64
    go_wp2_with fail
    go_region
    all_goals go_wp2_with fail
    all_goals refine bodyPost_ret (v := .tuple #[.string ⟨#[]⟩, .int .i64 f]) (by simp [results, Tryz.results64, go_sem]) rfl ?_
    all_goals exact ⟨rfl, by first | exact ((Below.refl _ w).alloc (Nat.le_refl _) _).drew | exact (Below.refl _ w).drew.alloc (Nat.le_refl _) _⟩
theorem pFaultText_at (f : Int) (k : Nat) (hf : f = k) (h1 : 1 ≤ k) (h9 : k ≤ 9) : pFaultText f = faultB k := by
  subst hf
  have h : k = 1 ∨ k = 2 ∨ k = 3 ∨ k = 4 ∨ k = 5 ∨ k = 6 ∨ k = 7 ∨ k = 8 ∨ k = 9 := by omega
  rcases h with rfl | rfl | rfl | rfl | rfl | rfl | rfl | rfl | rfl <;> rfl
set_option maxRecDepth 100000 in
set_option maxHeartbeats 6400000 in
theorem rfaultText_any (f : Int) (w : World) :
    Calls Tryz.prog 65 #[.int .i64 f] w fun x w' => x = .returned (.string ⟨(pFaultText f).toArray⟩) ∧ Below w.heap.size w w' := by
  by_cases h1 : f < 1
  · have hN : pFaultText f = [] := if_neg (by omega)
    rw [hN]
    have d1 : decide (f < 1) = true := decide_eq_true h1
    go_enter Tryz.func65, Tryz.ntmps65
    go_wp2_with fail
    go_ret
    exact ⟨rfl, Below.refl _ _⟩
  have d1 : decide (f < 1) = false := decide_eq_false h1
  by_cases h9 : 9 < f
  · have hN : pFaultText f = [] := if_neg (by omega)
    rw [hN]
    have d9 : decide (9 < f) = true := decide_eq_true h9
    go_enter Tryz.func65, Tryz.ntmps65
    go_wp2_with fail
    go_ret
    exact ⟨rfl, Below.refl _ _⟩
  have d9 : decide (9 < f) = false := decide_eq_false h9
  obtain ⟨k, rfl⟩ : ∃ k : Nat, f = k := ⟨f.toNat, by omega⟩
  have hk : k < 10 := by omega
  have k0 : (0 : Int) ≤ (k : Int) := by omega
  have k9 : (k : Int) < 10 := by omega
  rw [pFaultText_at k k rfl (by omega) (by omega)]
  clear h1 h9
  go_enter Tryz.func65, Tryz.ntmps65
  go_wp2_with fail
  refine (rfaults_any _).mono ?_
  rintro x w1 ⟨g, rfl, hg, hL, hb⟩
  have hc := faults_cell hL k hk
  have HB := Lib.hid hb
  clear hb hL hg
  go_wp2_with fail
  go_ret
  exact ⟨rfl, HB.out⟩
theorem show_parts (v : Val) (hR : vRight v = true) : vShow v = (vToText v).1 ++ pFaultText (vToText v).2 ∧ (vToText v).1.length ≤ 1000 := by
  rcases right_forms v hR with rfl | ⟨m, e, rfl, h⟩ | ⟨t, rfl, h⟩ | ⟨b, rfl⟩ | ⟨f, rfl, h1, h2⟩
  · exact ⟨rfl, by decide⟩
  · refine ⟨?_, ?_⟩
    · show nText m e = nText m e ++ []
      simp
    · show (nText m e).length ≤ 1000
      rcases Nat.lt_or_ge 255 (nText m e).length with hl | hl
      · have hp := parse_text _ _ h
        unfold pParse at hp
        rw [if_pos hl] at hp
        cases hp
      · omega
  · refine ⟨?_, ?_⟩
    · show t = t ++ []
      simp
    · show t.length ≤ 1000
      omega
  · cases b <;> exact ⟨rfl, by decide⟩
  · exact ⟨rfl, by show 0 ≤ 1000; omega⟩
theorem faultText_len (f : Int) : (pFaultText f).length ≤ 20 := by
  by_cases hf : 1 ≤ f ∧ f ≤ 9
  · exact (read_fault _ hf.1 hf.2).2.2.2
  · have : pFaultText f = [] := if_neg hf
    rw [this]
    decide
set_option maxRecDepth 100000 in
set_option maxHeartbeats 6400000 in
theorem rShow_right (v : Val) (w : World) (hR : vRight v = true) :
    Calls Tryz.prog 37 #[valV v] w fun x w' => x = .returned (.string ⟨(vShow v).toArray⟩) ∧ Below w.heap.size w w' := by
  obtain ⟨hs, hl⟩ := show_parts v hR
  have HS := Lib.hid hs
  have C := Lib.hid (fun W => rToText_right v W hR)
  have hf := faultText_len (vToText v).2
  have D := Lib.hid (fun W => rfaultText_any (vToText v).2 W)
  have T0 := Lib.hid (ValIn.start w v)
  generalize vShow v = r at *
  generalize pFaultText (vToText v).2 = t at *
  generalize (vToText v).2 = f at *
  generalize (vToText v).1 = s at *
  clear hs hR
  go_enter Tryz.func37, Tryz.ntmps37
  go_wp2_with fail
  refine (C.out _).mono ?_
  rintro x w1 ⟨rfl, hb⟩
  have T1 := Lib.hid (T0.out.next hb)
  clear hb T0 C
  go_wp2_with fail
  refine (D.out _).mono ?_
  rintro x w2 ⟨rfl, hb⟩
  have T2 := Lib.hid (T1.out.next hb)
  clear hb T1 D
  go_wp2_with fail
  go_ret
  exact ⟨by rw [HS.out]; rfl, T2.out.2.2.2.2.2.2.2⟩
end Go.Proofs.YteccjdclkcipbaaGreatDoor
