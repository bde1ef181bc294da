/-
  strconv.FormatUint at base 10; num.Text: what they return (merged: Fmt1, Num10).
-/
import Derived.Test.YtpdaloohgfnbhaaGreatDoorShelfB
import Derived.Test.YtpdaloohgfnbhaaGreatDoorKit
import Derived.Lib.AppendIntMem
import Derived.Lib.Walk
import Derived.Lib.Hide
import Derived.Test.YtpdaloohgfnbhaaGreatDoorRefA3
import Derived.Test.YtpdaloohgfnbhaaGreatDoorNum1
namespace Go.Proofs.YtpdaloohgfnbhaaGreatDoor
open Go.RowKit

open Go.RowKit Go.Sort Go.Lib

abbrev PowTab (w : World) : Prop := Lib.TabIs Tryz.prog w "internal/strconv.uint64pow10" .u64 Lib.pow10Tab
set_option maxHeartbeats 6400000 in
set_option maxRecDepth 100000 in
theorem ifmt_any (u : Nat) (hu64 : u < 18446744073709551616) (w : World) (htab : PowTab w) :
    Calls Tryz.prog 141 #[.int .u64 u, .int .i64 10] w fun e w' => e = .returned (.string ⟨(Lib.decDigits u).toArray⟩) ∧ Below w.heap.size w w' := by
  by_cases hs : u < 100
  · go_enter Tryz.func141, Tryz.ntmps141
    go_wp2_with fail
    refine (Tryz.internal_strconv_small u hs _).mono ?_
    rintro e w' ⟨rfl, rfl⟩
    go_wp2_with fail
    go_ret
    exact ⟨rfl, Below.refl _ _⟩
  · have hu1 : 1 ≤ u := by omega
    have hnd20 : Lib.nDigits u ≤ 20 := by have := Lib.numDigits_eq u hu1 hu64; split at this <;> omega
    have hal : Tryz.prog.arrayLen 179 = 24 := by kernel_rfl
    have hsl1 : ∀ W, (Instr.sliceAt 179 (.pointer (some ⟨w.heap.size, 0, none⟩)) none (some (.int .i64 (Lib.nDigits u : Int))) none).run Tryz.prog W = .ok (.slice (some ⟨w.heap.size, 0, none⟩) (Lib.nDigits u) 24) W := fun W => by
      rw [run_sliceAt_array_h W 179 ⟨w.heap.size, 0, none⟩ (by kernel_rfl) .i64 (Lib.nDigits u : Int) (by omega) (by rw [hal]; omega)]
      go_simp
    have hH0 := Lib.holds_zero0 w 179 (Lib.nDigits u) (by omega)
    have hfmt := Tryz.internal_strconv_formatBase10 w.heap.size 0 24 u (Array.replicate (Lib.nDigits u) 0) (w.alloc (.cells Lib.zeros24 179)) hH0 (by rw [Array.size_replicate]; exact Lib.lt_pow_nDigits u) hu64 (by rw [Array.size_replicate]; omega)
    rw [Array.size_replicate] at hfmt
    have HH0 := Lib.hid hH0
    have Hfmt := Lib.hid hfmt
    clear hH0 hal hfmt
    go_enter Tryz.func141, Tryz.ntmps141
    go_wp2_with fail
    refine (Tryz.internal_strconv_numDigits u hu1 hu64 _ (Lib.tabIs_alloc htab _)).mono ?_
    rintro e w' ⟨rfl, rfl⟩
    go_wp2_with fail
    refine Hfmt.out.mono ?_
    rintro e w' ⟨rfl, k, v', dk, rfl, hF⟩
    have hcv : (convert 54 9 (.slice (some ⟨w.heap.size, 0, none⟩) (Lib.nDigits u) 24)).run Tryz.prog ((putRow (fun (b : UInt8) => Value.int .u8 (b.toNat : Int)) (w.alloc (.cells Lib.zeros24 179)) w.heap.size 0 dk).drewN k) = .ok (.string ⟨(Lib.decDigits u).toArray⟩) ((putRow (fun (b : UInt8) => Value.int .u8 (b.toNat : Int)) (w.alloc (.cells Lib.zeros24 179)) w.heap.size 0 dk).drewN k) := by
      have h := run_convert_bytes_back (P := Tryz.prog) ((putRow (fun (b : UInt8) => Value.int .u8 (b.toNat : Int)) (w.alloc (.cells Lib.zeros24 179)) w.heap.size 0 dk).drewN k) 54 9 5 ⟨w.heap.size, 0, none⟩ 24 (Lib.decDigits u) Tryz.underlying54 Tryz.underlying5 Tryz.underlying9 (fun j hj => by
        rw [Lib.row_is_numeral hF j hj, Lib.add_plain, World.cell?_drewN]
        exact cell?_putRow (fun (b : UInt8) => Value.int .u8 (b.toNat : Int)) _ w.heap.size 0 _ dk HH0.out (by rw [hF.size, Array.size_replicate]) j (by rw [hF.size]; rw [Lib.decDigits_length] at hj; exact hj))
      rw [Lib.decDigits_length] at h
      exact h
    obtain ⟨os, eo⟩ := Lib.fin_at w (.cells Lib.zeros24 179) dk k 0
    have HB : Hid (Below w.heap.size w ((putRow (fun (b : UInt8) => Value.int .u8 (b.toNat : Int)) (w.alloc (.cells Lib.zeros24 179)) w.heap.size 0 dk).drewN k)) := Lib.hid (by rw [eo]; exact Lib.below_grow _ w (Nat.le_refl _) k os)
    clear eo Hfmt HH0
    go_wp2_with fail
    go_ret
    exact ⟨rfl, HB.out⟩
theorem fmt_any (u : Nat) (hu64 : u < 18446744073709551616) (w : World) (htab : PowTab w) :
    Calls Tryz.prog 119 #[.int .u64 u, .int .i64 10] w fun e w' => e = .returned (.string ⟨(Lib.decDigits u).toArray⟩) ∧ Below w.heap.size w w' := by
  go_enter Tryz.func119, Tryz.ntmps119
  go_wp2_with fail
  refine (ifmt_any u hu64 _ htab).mono ?_
  rintro e w' ⟨rfl, hb⟩
  go_wp2_with fail
  go_ret
  exact ⟨rfl, hb⟩
end Go.Proofs.YtpdaloohgfnbhaaGreatDoor
namespace Go.Proofs.YtpdaloohgfnbhaaGreatDoor
open Go.RowKit

theorem ret_bytes {x : ByteArray} {y : Bs} (h : x.data.toList = y) : Ending.returned (.string x) = .returned (.string ⟨y.toArray⟩) := by rw [← h]
/-- a right number's text -/
def nText (m e : Int) : Bs :=
  let t := Lib.decDigits m.natAbs
  let s := if m < 0 then [45] else []
  if 0 ≤ e then s ++ t ++ List.replicate e.toNat 48
  else if 0 < (t.length : Int) + e then s ++ t.take ((t.length : Int) + e).toNat ++ [46] ++ t.drop ((t.length : Int) + e).toNat
  else s ++ [48, 46] ++ List.replicate (-((t.length : Int) + e)).toNat 48 ++ t
theorem repeatL_one (c : UInt8) : ∀ n, Lib.repeatL [c] n = List.replicate n c
  | 0 => rfl
  | n + 1 => by rw [Lib.repeatL, repeatL_one c n]; rfl
theorem rep_any (k : Nat) (w : World) (hk : k ≤ 1000000) :
    Calls Tryz.prog 76 #[.string ⟨#[48]⟩, .int .i64 k] w fun e w' => e = .returned (.string ⟨(List.replicate k 48).toArray⟩) ∧ Below w.heap.size w w' := by
  have h := Tryz.strings_Repeat ⟨#[48]⟩ k w (by omega) (by show 1 * k ≤ _; omega)
  rw [show Lib.repeatL (⟨#[48]⟩ : ByteArray).data.toList k = List.replicate k 48 from repeatL_one 48 k] at h
  exact h
theorem gPow : Tryz.prog.globalNamed "internal/strconv.uint64pow10" = some 3 := by kernel_rfl
theorem PowTab.next {w w' : World} (h : PowTab w) (hb : Below w.heap.size w w') : PowTab w' := by
  unfold PowTab Lib.TabIs World.var? at *
  rw [gPow] at h ⊢
  simp only [Option.bind_some] at h ⊢
  have hlt : 3 < w.heap.size := by
    rcases Nat.lt_or_ge 3 w.heap.size with h' | h'
    · exact h'
    · rw [Array.getElem?_eq_none h'] at h; cases h
  rw [hb.block _ hlt]
  exact h
/-- the library's variable holds a number -/
def MaxVar (w : World) : Prop := ∃ m, w.cell? ⟨0, 0, none⟩ = some (.int .i64 m)
theorem cell_lt {w : World} {b o : Nat} {v : Value} (h : w.cell? ⟨b, o, none⟩ = some v) : b < w.heap.size := by
  rcases Nat.lt_or_ge b w.heap.size with h1 | h1
  · exact h1
  · simp [World.cell?, Array.getElem?_eq_none h1] at h
theorem MaxVar.next {w w' : World} (h : MaxVar w) (hb : Below w.heap.size w w') : MaxVar w' := by
  obtain ⟨m, hm⟩ := h
  exact ⟨m, (hb.cell (p := ⟨_, _, none⟩) (cell_lt hm)).trans hm⟩
set_option maxRecDepth 100000 in
set_option maxHeartbeats 6400000 in
theorem nText_right (m e : Int) (w : World) (ht : PowTab w) (h1 : -9223372036854775808 ≤ m) (h2 : m ≤ 9223372036854775807) (hR : pRight m e = true) :
    Calls Tryz.prog 89 #[numV m e] w fun x w' => x = .returned (.string ⟨(nText m e).toArray⟩) ∧ Below w.heap.size w w' := by
  have ke : -40 ≤ e ∧ e ≤ 40 := by
    by_cases z : m = 0
    · unfold pRight at hR; rw [if_pos z] at hR; simp at hR; omega
    · have := pRight_of hR z; omega
  obtain ⟨ke1, ke2⟩ := ke
  have CR := Lib.hid (fun W => right_any m e W h1 h2)
  rw [hR] at CR
  have T0 := Lib.hid (NumIn.start w m e)
  have HT0 : Hid (PowTab (w.alloc (.cells #[.int .i64 m, .int .i64 e] 33))) := Lib.hid (ht.next ((Below.refl _ w).alloc (Nat.le_refl _) _))
  have CS := Lib.hid (fun W => size_any m W h1 h2)
  have CF := Lib.hid (fun W (h : PowTab W) => fmt_any m.natAbs (by omega) W h)
  have hl0 : 1 ≤ (Lib.decDigits m.natAbs).length := by rw [Lib.decDigits_length, Lib.nDigits]; split <;> omega
  have hl1 : (Lib.decDigits m.natAbs).length ≤ 20 := by
    rw [Lib.decDigits_length]
    by_cases z : m.natAbs = 0
    · rw [z, Lib.nDigits_small (by omega)]; omega
    · have := Lib.numDigits_eq m.natAbs (by omega) (by omega); split at this <;> omega
  have HN : Hid (nText m e = if 0 ≤ e then (if m < 0 then [45] else []) ++ Lib.decDigits m.natAbs ++ List.replicate e.toNat 48
    else if 0 < ((Lib.decDigits m.natAbs).length : Int) + e then (if m < 0 then [45] else []) ++ (Lib.decDigits m.natAbs).take (((Lib.decDigits m.natAbs).length : Int) + e).toNat ++ [46] ++ (Lib.decDigits m.natAbs).drop (((Lib.decDigits m.natAbs).length : Int) + e).toNat
    else (if m < 0 then [45] else []) ++ [48, 46] ++ List.replicate (-(((Lib.decDigits m.natAbs).length : Int) + e)).toNat 48 ++ Lib.decDigits m.natAbs) := Lib.hid rfl
  generalize nText m e = r at *
  clear ht h1 h2 hR
  generalize Lib.decDigits m.natAbs = t at *
  go_enter Tryz.func89, Tryz.ntmps89
  go_wp2_with fail
  refine (CR.out _).mono ?_
  rintro x w1 ⟨rfl, hb⟩
  have T1 := Lib.hid (T0.out.next hb)
  have HT1 := Lib.hid (HT0.out.next hb)
  clear hb T0 HT0 CR
  obtain ⟨g0, g1, g2, -⟩ := T1.out
  go_wp2_with fail
  refine (CS.out _).mono ?_
  rintro x w2 ⟨rfl, rfl⟩
  go_wp2_with fail
  refine (CF.out _ HT1.out).mono ?_
  rintro x w2 ⟨rfl, hb⟩
  have T2 := Lib.hid (T1.out.next hb)
  clear hb T1 HT1 CS CF g0 g1 g2
  obtain ⟨g0, g1, g2, -⟩ := T2.out
  go_upto_if 15 with fail
  go_cut [4] (fun v wx => v = .string ⟨(if m < 0 then [45] else [] : Bs).toArray⟩ ∧ wx = w2)
  case first =>
    by_cases hm : m < 0
    · go_wp2_with fail
      go_meet
      exact ⟨by rw [if_pos hm], rfl⟩
    · go_wp2_with fail
      go_meet
      exact ⟨by rw [if_neg (by omega)], rfl⟩
  case rest =>
    obtain ⟨rfl, rfl⟩ := hcut
    have hsg : (if m < 0 then [45] else [] : Bs).length ≤ 1 := by split <;> decide
    generalize (if m < 0 then [45] else [] : Bs) = sg at *
    by_cases he : 0 ≤ e
    · obtain ⟨k, rfl⟩ : ∃ k : Nat, e = k := ⟨e.toNat, by omega⟩
      have hN : Hid (r = sg ++ t ++ List.replicate k 48) := Lib.hid (by rw [HN.out, if_pos he]; rfl)
      clear HN
      go_wp2_with fail
      refine (rep_any k _ (by omega)).mono ?_
      rintro x w3 ⟨rfl, hb⟩
      have hrl : (List.replicate k (48 : UInt8)).length ≤ 40 := by rw [List.length_replicate]; omega
      generalize List.replicate k (48 : UInt8) = z at *
      have HB : Hid (Below w.heap.size w w3) := Lib.hid (T2.out.next hb).2.2.2
      clear hb T2
      go_wp2_with fail
      go_ret
      exact ⟨ret_bytes (by rw [hN.out]; simp), HB.out⟩
    · by_cases hw : 0 < (t.length : Int) + e
      · obtain ⟨n, hn⟩ : ∃ n : Nat, (t.length : Int) + e = n := ⟨((t.length : Int) + e).toNat, by omega⟩
        have hN : Hid (r = sg ++ t.take n ++ [46] ++ t.drop n) := Lib.hid (by rw [HN.out, if_neg he, if_pos hw, hn]; rfl)
        have hnl : n ≤ t.length := by omega
        clear HN
        go_wp2_with fail
        go_region
        all_goals go_wp2_with fail
        all_goals go_ret
        all_goals exact ⟨ret_bytes (by rw [hN.out]; simp), T2.out.2.2.2.drew⟩
      · obtain ⟨k, hk⟩ : ∃ k : Nat, (t.length : Int) + e = -(k : Int) := ⟨(-((t.length : Int) + e)).toNat, by omega⟩
        have hN : Hid (r = sg ++ [48, 46] ++ List.replicate k 48 ++ t) := Lib.hid (by rw [HN.out, if_neg he, if_neg hw, hk, Int.neg_neg]; rfl)
        clear HN
        go_wp2_with fail
        refine (rep_any k _ (by omega)).mono ?_
        rintro x w3 ⟨rfl, hb⟩
        have hrl : (List.replicate k (48 : UInt8)).length ≤ 40 := by rw [List.length_replicate]; omega
        generalize List.replicate k (48 : UInt8) = z at *
        have HB : Hid (Below w.heap.size w w3) := Lib.hid (T2.out.next hb).2.2.2
        clear hb T2
        go_wp2_with fail
        go_ret
        exact ⟨ret_bytes (by rw [hN.out]; simp), HB.out⟩
end Go.Proofs.YtpdaloohgfnbhaaGreatDoor
