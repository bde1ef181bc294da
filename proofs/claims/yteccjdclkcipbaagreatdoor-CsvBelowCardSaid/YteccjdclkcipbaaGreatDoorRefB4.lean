/-
  counterpaneref02.Right, Text, Bad, Truth, Number, Fold, Faults, FaultOf, Read.
-/
import Derived.Test.YteccjdclkcipbaaGreatDoorRefA3
import Derived.Test.YteccjdclkcipbaaGreatDoorVal7
import Derived.Test.YteccjdclkcipbaaGreatDoorPl1
import Derived.Test.YteccjdclkcipbaaGreatDoorRefA8
namespace Go.Proofs.YteccjdclkcipbaaGreatDoor
open Go.RowKit

/-- may a value be? -/
def vRight (v : Val) : Bool :=
  !((decide (v.kind ≠ 1) && !(decide (v.mant = 0) && decide (v.exp = 0))) || (decide (v.kind ≠ 2) && decide (v.text ≠ [])) || (decide (v.kind ≠ 3) && v.truth) || (decide (v.kind ≠ 4) && decide (v.fault ≠ 0))) &&
  (if v.kind = 1 then pRight v.mant v.exp else if v.kind = 2 then decide (v.text.length ≤ 255) else decide (v.kind = 0) || decide (v.kind = 3) || (decide (v.kind = 4) && decide (1 ≤ v.fault) && decide (v.fault ≤ 9)))
set_option maxRecDepth 100000 in
set_option maxHeartbeats 6400000 in
theorem rvRight_any (v : Val) (w : World) (h1 : -9223372036854775808 ≤ v.mant) (h2 : v.mant ≤ 9223372036854775807) (hl : v.text.length ≤ maxLen) :
    Calls Tryz.prog 22 #[valV v] w fun x w' => x = .returned (.bool (vRight v)) ∧ Below w.heap.size w w' := by
  have HN : Hid (vRight v = (!((decide (v.kind ≠ 1) && !(decide (v.mant = 0) && decide (v.exp = 0))) || (decide (v.kind ≠ 2) && decide (v.text ≠ [])) || (decide (v.kind ≠ 3) && v.truth) || (decide (v.kind ≠ 4) && decide (v.fault ≠ 0))) &&
    (if v.kind = 1 then pRight v.mant v.exp else if v.kind = 2 then decide (v.text.length ≤ 255) else decide (v.kind = 0) || decide (v.kind = 3) || (decide (v.kind = 4) && decide (1 ≤ v.fault) && decide (v.fault ≤ 9))))) := Lib.hid rfl
  have HB : Hid (Below w.heap.size w (w.alloc (.cells (valC v) 38))) := Lib.hid ((Below.refl _ w).alloc (Nat.le_refl _) _)
  have HRt := Lib.hid (fun W => rRight_any v.mant v.exp W h1 h2)
  generalize vRight v = r at *
  obtain ⟨k, m, e, t, tr, f⟩ := v
  unfold maxLen at hl
  dsimp only at HN HRt hl
  clear h1 h2
  go_enter Tryz.func22, Tryz.ntmps22
  go_upto_region 1 with fail
  go_cut [3] (fun v3 wx => v3 = .bool (decide (m = 0) && decide (e = 0)) ∧ w.alloc (.cells #[.int .i64 k, .int .i64 m, .int .i64 e, .string ⟨t.toArray⟩, .bool tr, .int .i64 f] 38) = wx)
  case first =>
    by_cases c1 : m = 0
    · subst c1
      by_cases c2 : e = 0
      · subst c2
        go_wp2_with fail
        go_meet
        exact ⟨rfl, rfl⟩
      · have b2 : (e == 0) = false := by rw [beq_eq_false_iff_ne]; exact c2
        go_wp2_with fail
        go_meet
        exact ⟨by simp [c2], rfl⟩
    · have b1 : (m == 0) = false := by rw [beq_eq_false_iff_ne]; exact c1
      go_wp2_with fail
      go_meet
      exact ⟨by simp [c1], rfl⟩
  case rest =>
    obtain ⟨rfl, rfl⟩ := hcut
    generalize (decide (m = 0) && decide (e = 0)) = z at *
    -- the four tests, in their order
    by_cases k1 : k = 1
    · subst k1
      cases t with
      | cons c t =>
        have hr : Hid (r = false) := Lib.hid (by rw [HN.out]; simp)
        go_wp2_with fail
        go_ret
        exact ⟨ret_bool (by rw [hr.out]), HB.out⟩
      | nil =>
        cases tr
        · by_cases hf : f = 0
          · have hr : Hid (r = pRight m e) := Lib.hid (by rw [HN.out]; simp [hf])
            subst hf
            go_wp2_with fail
            refine (HRt.out _).mono ?_
            rintro x w1 ⟨rfl, hb1⟩
            have HB1 : Hid (Below w.heap.size w w1) := Lib.hid (HB.out.trans (hb1.mono HB.out.size))
            clear hb1
            go_wp2_with fail
            go_ret
            exact ⟨ret_bool (by rw [hr.out]), HB1.out⟩
          · have hr : Hid (r = false) := Lib.hid (by rw [HN.out]; simp [hf])
            have bf : (f != 0) = true := by rw [bne_iff_ne]; exact hf
            go_wp2_with fail
            go_ret
            exact ⟨ret_bool (by rw [hr.out]), HB.out⟩
        · have hr : Hid (r = false) := Lib.hid (by rw [HN.out]; simp)
          go_wp2_with fail
          go_ret
          exact ⟨ret_bool (by rw [hr.out]), HB.out⟩
    have n1 : (k != 1) = true := by rw [bne_iff_ne]; exact k1
    have e1 : (k == 1) = false := by rw [beq_eq_false_iff_ne]; exact k1
    cases z
    · have hr : Hid (r = false) := Lib.hid (by rw [HN.out]; simp [k1])
      go_wp2_with fail
      go_ret
      exact ⟨ret_bool (by rw [hr.out]), HB.out⟩
    by_cases k2 : k = 2
    · subst k2
      cases tr
      · by_cases hf : f = 0
        · have hr : Hid (r = decide (t.length ≤ 255)) := Lib.hid (by rw [HN.out]; simp [hf])
          subst hf
          go_wp2_with fail
          go_ret
          exact ⟨ret_bool (by rw [hr.out, Bool.eq_iff_iff]; simp; try omega), HB.out⟩
        · have hr : Hid (r = false) := Lib.hid (by rw [HN.out]; simp [hf])
          have bf : (f != 0) = true := by rw [bne_iff_ne]; exact hf
          go_wp2_with fail
          go_ret
          exact ⟨ret_bool (by rw [hr.out]), HB.out⟩
      · have hr : Hid (r = false) := Lib.hid (by rw [HN.out]; simp)
        go_wp2_with fail
        go_ret
        exact ⟨ret_bool (by rw [hr.out]), HB.out⟩
    have n2 : (k != 2) = true := by rw [bne_iff_ne]; exact k2
    have e2 : (k == 2) = false := by rw [beq_eq_false_iff_ne]; exact k2
    cases t with
    | cons c t =>
      have hr : Hid (r = false) := Lib.hid (by rw [HN.out]; simp [k2])
      clear k1 k2
      go_wp2_with fail
      go_ret
      exact ⟨ret_bool (by rw [hr.out]), HB.out⟩
    | nil =>
      by_cases k3 : k = 3
      · subst k3
        by_cases hf : f = 0
        · have hr : Hid (r = true) := Lib.hid (by rw [HN.out]; simp [hf])
          subst hf
          go_wp2_with fail
          go_ret
          exact ⟨ret_bool (by rw [hr.out]), HB.out⟩
        · have hr : Hid (r = false) := Lib.hid (by rw [HN.out]; simp [hf])
          have bf : (f != 0) = true := by rw [bne_iff_ne]; exact hf
          go_wp2_with fail
          go_ret
          exact ⟨ret_bool (by rw [hr.out]), HB.out⟩
      have n3 : (k != 3) = true := by rw [bne_iff_ne]; exact k3
      have e3 : (k == 3) = false := by rw [beq_eq_false_iff_ne]; exact k3
      cases tr
      · by_cases k4 : k = 4
        · subst k4
          by_cases f1 : 1 ≤ f
          · by_cases f9 : f ≤ 9
            · have hr : Hid (r = true) := Lib.hid (by rw [HN.out]; simp [f1, f9])
              clear k1 k2 k3
              go_wp2_with fail
              go_ret
              exact ⟨ret_bool (by rw [hr.out]), HB.out⟩
            · have hr : Hid (r = false) := Lib.hid (by rw [HN.out]; simp [f9])
              clear k1 k2 k3
              go_wp2_with fail
              go_ret
              exact ⟨ret_bool (by rw [hr.out]), HB.out⟩
          · have hr : Hid (r = false) := Lib.hid (by rw [HN.out]; simp [f1])
            clear k1 k2 k3
            go_wp2_with fail
            go_ret
            exact ⟨ret_bool (by rw [hr.out]), HB.out⟩
        have n4 : (k != 4) = true := by rw [bne_iff_ne]; exact k4
        have e4 : (k == 4) = false := by rw [beq_eq_false_iff_ne]; exact k4
        by_cases hf : f = 0
        · by_cases k0 : k = 0
          · have hr : Hid (r = true) := Lib.hid (by rw [HN.out]; simp [hf, k0])
            subst hf
            subst k0
            clear k1 k2 k3 k4
            go_wp2_with fail
            go_ret
            exact ⟨ret_bool (by rw [hr.out]), HB.out⟩
          · have hr : Hid (r = false) := Lib.hid (by rw [HN.out]; simp [k0, k1, k2, k3, k4])
            have e0 : (k == 0) = false := by rw [beq_eq_false_iff_ne]; exact k0
            subst hf
            clear k1 k2 k3 k4 k0
            go_wp2_with fail
            go_ret
            exact ⟨ret_bool (by rw [hr.out]), HB.out⟩
        · have hr : Hid (r = false) := Lib.hid (by rw [HN.out]; simp [hf, k4])
          have bf : (f != 0) = true := by rw [bne_iff_ne]; exact hf
          clear k1 k2 k3 k4
          go_wp2_with fail
          go_ret
          exact ⟨ret_bool (by rw [hr.out]), HB.out⟩
      · have hr : Hid (r = false) := Lib.hid (by rw [HN.out]; simp [k3])
        clear k1 k2 k3
        go_wp2_with fail
        go_ret
        exact ⟨ret_bool (by rw [hr.out]), HB.out⟩
set_option maxHeartbeats 400000 in
theorem rof_any (m e : Int) (w : World) :
    Calls Tryz.prog 58 #[numV m e] w fun x w' => x = .returned (valV (vNumber m e)) ∧ Below w.heap.size w w' := by
  go_enter Tryz.func58, Tryz.ntmps58
  go_wp2
  refine bodyPost_ret (v := .agg #[.int .i64 1, .int .i64 m, .int .i64 e, .string ⟨#[]⟩, .bool false, .int .i64 0]) (by simp [results, Tryz.results58, go_sem]) rfl ?_
  exact ⟨rfl, ((Below.refl _ w).alloc (Nat.le_refl _) _).alloc (by simp) _⟩
set_option maxHeartbeats 400000 in
theorem rtruth_any (b : Bool) (w : World) :
    Calls Tryz.prog 60 #[.bool b] w fun x w' => x = .returned (valV (vTruth b)) ∧ Below w.heap.size w w' := by
  go_enter Tryz.func60, Tryz.ntmps60
  go_wp2
  refine bodyPost_ret (v := .agg #[.int .i64 3, .int .i64 0, .int .i64 0, .string ⟨#[]⟩, .bool b, .int .i64 0]) (by simp [results, Tryz.results60, go_sem]) rfl ?_
  exact ⟨rfl, (Below.refl _ w).alloc (Nat.le_refl _) _⟩
set_option maxHeartbeats 800000 in
theorem rbad_any (f : Int) (w : World) :
    Calls Tryz.prog 62 #[.int .i64 f] w fun x w' => x = .returned (valV (vBad f)) ∧ Below w.heap.size w w' := by
  have hN : vBad f = ⟨4, 0, 0, [], false, if f < 1 ∨ 9 < f then 9 else f⟩ := rfl
  have HN := Lib.hid hN
  clear hN
  generalize vBad f = r at *
  by_cases h1 : f < 1
  · rw [if_pos (.inl h1)] at HN
    go_enter Tryz.func62, Tryz.ntmps62
    go_wp2
    refine bodyPost_ret (v := .agg #[.int .i64 4, .int .i64 0, .int .i64 0, .string ⟨#[]⟩, .bool false, .int .i64 9]) (by simp [results, Tryz.results62, go_sem]) rfl ?_
    exact ⟨by rw [HN.out], (Below.refl _ w).alloc (Nat.le_refl _) _⟩
  by_cases h2 : 9 < f
  · rw [if_pos (.inr h2)] at HN
    go_enter Tryz.func62, Tryz.ntmps62
    go_wp2
    refine bodyPost_ret (v := .agg #[.int .i64 4, .int .i64 0, .int .i64 0, .string ⟨#[]⟩, .bool false, .int .i64 9]) (by simp [results, Tryz.results62, go_sem]) rfl ?_
    exact ⟨by rw [HN.out], (Below.refl _ w).alloc (Nat.le_refl _) _⟩
  rw [if_neg (by omega)] at HN
  go_enter Tryz.func62, Tryz.ntmps62
  go_wp2
  refine bodyPost_ret (v := .agg #[.int .i64 4, .int .i64 0, .int .i64 0, .string ⟨#[]⟩, .bool false, .int .i64 f]) (by simp [results, Tryz.results62, go_sem]) rfl ?_
  exact ⟨by rw [HN.out], (Below.refl _ w).alloc (Nat.le_refl _) _⟩
set_option maxHeartbeats 800000 in
theorem rtext_any (l : Bs) (w : World) (hl : l.length ≤ 1000000) :
    Calls Tryz.prog 63 #[.string ⟨l.toArray⟩] w fun x w' => x = .returned (valV (vText l)) ∧ Below w.heap.size w w' := by
  have hN : vText l = if 255 < l.length then vBad 2 else ⟨2, 0, 0, l, false, 0⟩ := rfl
  have HN := Lib.hid hN
  clear hN
  generalize vText l = r at *
  by_cases h1 : 255 < l.length
  · rw [if_pos h1] at HN
    have hL := Lib.hid (Lies.new w 38 (valC zeroVal))
    have HB := Lib.hid ((Below.refl _ w).alloc (Nat.le_refl _) (.cells (valC zeroVal) 38))
    go_enter Tryz.func63, Tryz.ntmps63
    go_wp2_with fail
    refine (rbad_any 2 _).mono ?_
    rintro e w1 ⟨rfl, hb⟩
    obtain ⟨z0, z1, z2, z3, z4, z5, y0, y1, y2, y3, y4, y5⟩ := (hL.out.next hb).six
    have HB1 : Hid (Below w.heap.size w w1) := Lib.hid (HB.out.trans (hb.mono HB.out.size))
    clear hb
    unfold vBad
    go_wp2_with fail
    refine bodyPost_ret (v := .agg #[.int .i64 4, .int .i64 0, .int .i64 0, .string ⟨#[]⟩, .bool false, .int .i64 2]) (by simp [results, Tryz.results63, go_sem, z0, z1, z2, z3, z4, z5]) rfl ?_
    exact ⟨by rw [HN.out]; rfl, put6_below ⟨4, 0, 0, [], false, 2⟩ HB1.out (Nat.le_refl _)⟩
  · rw [if_neg h1] at HN
    go_enter Tryz.func63, Tryz.ntmps63
    go_wp2_with fail
    refine bodyPost_ret (v := .agg #[.int .i64 2, .int .i64 0, .int .i64 0, .string ⟨l.toArray⟩, .bool false, .int .i64 0]) (by simp [results, Tryz.results63, go_sem]) rfl ?_
    exact ⟨by rw [HN.out], (Below.refl _ w).alloc (Nat.le_refl _) _⟩
theorem conv_one (w : World) (n : Nat) (c : UInt8) (x : Int) (hx : ((c.toNat : Nat) : Int) = x) (hn : n = w.heap.size) : (convert 40 9 (.slice (some ⟨n, 0, none⟩) 1 1)).run Tryz.prog (w.alloc (.cells #[.int .u8 x] 5)) = .ok (.string ⟨[c].toArray⟩) (w.alloc (.cells #[.int .u8 x] 5)) := by
  subst hn
  subst hx
  refine conv_back [c] _ w.heap.size 1 1 rfl ?_
  intro j hj
  have hl := Lies.new w 5 #[.int .u8 (c.toNat : Int)]
  have : j = 0 := by simpa using hj
  subst this
  exact ⟨hl.cell 0, hl.frozen 0⟩
set_option maxRecDepth 100000 in
set_option maxHeartbeats 1600000 in
theorem rfold_any (l : Bs) (w : World) (hs : l.length ≤ 1000000) :
    Calls Tryz.prog 59 #[.string ⟨l.toArray⟩] w fun e w' => e = .returned (.string ⟨(pFold l).toArray⟩) ∧ Below w.heap.size w w' := by
  go_enter Tryz.func59, Tryz.ntmps59
  go_wp2_with fail
  go_loopw [3, 4] (fun v i wr => ∃ k : Nat, k ≤ l.length ∧ i = .int .i64 k ∧ v = .string ⟨(pFold (l.take k)).toArray⟩ ∧ Hid (Below w.heap.size w wr)) (fun _ i _ => l.length - (intOf i).toNat)
  case atStart => exact ⟨0, Nat.zero_le _, rfl, rfl, Lib.hid (Below.refl _ _)⟩
  case round =>
    obtain ⟨k, hk, rfl, rfl, hb⟩ := hrel
    by_cases hlt : k < l.length
    · have hsn : pFold (l.take (k + 1)) = pFold (l.take k) ++ [up l[k]] := by rw [List.take_succ_eq_append_getElem hlt]; unfold pFold; rw [List.map_append]; rfl
      have HSn := Lib.hid hsn
      have hpl : (pFold (l.take k)).length ≤ 1000000 := by rw [pFold_len, List.length_take]; omega
      have HB2 : Hid (∀ o, Below w.heap.size w (wr.alloc o)) := Lib.hid (fun o => hb.out.alloc hb.out.size o)
      clear hsn
      generalize pFold (l.take k) = D at *
      cases hlow : isLow l[k]
      · have hu := up_other _ hlow
        rw [hu] at HSn
        have hno : ¬ (97 ≤ (l[k].toNat : Int) ∧ (l[k].toNat : Int) ≤ 122) := by
          intro h
          have : isLow l[k] = true := (isLow_iff _).2 ⟨by omega, by omega⟩
          rw [hlow] at this; cases this
        have hcv := conv_one wr wr.heap.size l[k] (l[k].toNat : Int) rfl rfl
        clear hu
        go_wp2_with fail
        all_goals go_roundw
        all_goals first
          | exact ⟨k + 1, by omega, by go_num, by rw [HSn.out], Lib.hid (HB2.out _)⟩
          | (simp [intOf]; omega)
      · obtain ⟨h97, h122⟩ := (isLow_iff _).1 hlow
        have hcv := conv_one wr wr.heap.size (up l[k]) ((l[k].toNat : Int) - 32) (by have := up_low _ hlow; omega) rfl
        go_wp2_with fail
        go_roundw
        case rel => exact ⟨k + 1, by omega, by go_num, by rw [HSn.out], Lib.hid (HB2.out _)⟩
        case measure => simp [intOf]; omega
    · have hall : Hid (l.take k = l) := Lib.hid (List.take_of_length_le (by omega))
      go_wp2_with fail
      go_ret
      exact ⟨by rw [hall.out]; rfl, hb.out⟩
def faults02 : List Bs := (List.range 10).map faultB
set_option maxHeartbeats 400000 in
theorem rfaults_any (w : World) :
    Calls Tryz.prog 86 #[] w fun e w' => ∃ g, e = .returned (.slice (some ⟨g, 0, none⟩) 10 10) ∧ w.heap.size ≤ g ∧ Lies w' g 9 (faults02.map fun s => Value.string ⟨s.toArray⟩).toArray ∧ Below w.heap.size w w' := by
  go_enter Tryz.func86, Tryz.ntmps86
  go_wp2
  go_ret
  exact ⟨w.heap.size, rfl, Nat.le_refl _, Lies.new w 9 _, (Below.refl _ w).alloc (Nat.le_refl _) _⟩
theorem faults_cell {w : World} {g : Nat} (h : Lies w g 9 (faults02.map fun s => Value.string ⟨s.toArray⟩).toArray) (k : Nat) (hk : k < 10) : w.cell? ⟨g, k, none⟩ = some (.string ⟨(faultB k).toArray⟩) := by
  rw [h.cell]
  simp [faults02, hk]
set_option maxRecDepth 100000 in
set_option maxHeartbeats 3200000 in
theorem rfaultOf_any (l : Bs) (w : World) (hl : l.length ≤ 1000000) :
    Calls Tryz.prog 61 #[.string ⟨l.toArray⟩] w fun e w' => e = .returned (.int .i64 (pFaultNo l : Int)) ∧ Below w.heap.size w w' := by
  have hN : pFaultNo l = ((List.range' 1 9).find? fun k => pFold l == faultB k).getD 0 := rfl
  have HN := Lib.hid hN
  clear hN
  have HF := Lib.hid (fun W => rfold_any l W hl)
  generalize pFaultNo l = r at *
  generalize pFold l = u at *
  go_enter Tryz.func61, Tryz.ntmps61
  go_wp2_with fail
  go_loopw [3] (fun i wr => ∃ k : Nat, 1 ≤ k ∧ k ≤ 10 ∧ i = .int .i64 k ∧ Hid (∀ j, 1 ≤ j → j < k → (u == faultB j) = false) ∧ Hid (Below w.heap.size w wr)) (fun i _ => 10 - (intOf i).toNat)
  case atStart => exact ⟨1, by omega, by omega, rfl, Lib.hid (fun j h1 h2 => by omega), Lib.hid (Below.refl _ _)⟩
  case round =>
    obtain ⟨k, hk1, hk2, rfl, hr, hb⟩ := hrel
    by_cases hlt : k < 10
    · have hkI : (k : Int) < 10 := by omega
      have hk0 : (0 : Int) ≤ (k : Int) := by omega
      have HQ : Hid (u = faultB k → r = k) := Lib.hid (fun h => by rw [HN.out, find_first _ 9 k hk1 (by omega) (by rw [h]; simp) hr.out]; rfl)
      have HR : Hid (u ≠ faultB k → ∀ j, 1 ≤ j → j < k + 1 → (u == faultB j) = false) := Lib.hid (fun h j h1 h2 => by
        by_cases e : j = k
        · rw [e, beq_eq_false_iff_ne]; exact h
        · exact hr.out j h1 (by omega))
      have Hfc : Hid (∀ (W : World) (g : Nat), Lies W g 9 (faults02.map fun s => Value.string ⟨s.toArray⟩).toArray → W.cell? ⟨g, k, none⟩ = some (.string ⟨(faultB k).toArray⟩)) := Lib.hid (fun W g h => faults_cell h k hlt)
      generalize faultB k = t at *
      have hB0 := hb.out.drew
      have tok : True := trivial
      have hw0 : ∀ W : World, W = wr.drew → Hid (Below w.heap.size w W) := fun W e => Lib.hid (by rw [e]; exact hB0)
      by_cases hu : u = t
      · have e1 : (t == u) = true := by rw [hu]; simp
        have hrk : Hid (r = k) := Lib.hid (HQ.out hu)
        clear hu
        go_wp2_with fail
        first
          | (go_region_law (first
              | (have _ := tok; go_simp; go_at_call 86; refine (rfaults_any _).mono ?_; rintro e wF ⟨g, rfl, hg, hL, hbF⟩; have hcF := Hfc.out _ _ hL; have HbF := Lib.hid hbF; clear hbF)
              | (have _ := hL; go_simp; go_at_call 59; refine (HF.out _).mono ?_; rintro e wD ⟨rfl, hbD⟩; have hcD := Hfc.out _ _ (Lies.next hL hbD); have HbD := Lib.hid hbD; clear hbD)
              | (go_simp; go_at_call 59; refine (HF.out _).mono ?_; rintro e wD ⟨rfl, hbD⟩; have HbD := Lib.hid hbD; clear hbD)))
          | fail
        all_goals go_wp2_with fail
        all_goals go_ret
        all_goals refine ⟨ret_int (by rw [hrk.out]), ?_⟩
        all_goals first
          | exact (hB0.trans (HbF.out.mono hB0.size)).trans (HbD.out.mono (hB0.trans (HbF.out.mono hB0.size)).size)
          | exact (hB0.trans (HbD.out.mono hB0.size)).trans (HbF.out.mono (hB0.trans (HbD.out.mono hB0.size)).size)
      · have e1 : (t == u) = false := by rw [beq_eq_false_iff_ne]; exact fun h => hu h.symm
        have hrr := Lib.hid (HR.out hu)
        clear hu
        go_wp2_with fail
        first
          | (go_region_law (first
              | (have _ := tok; go_simp; go_at_call 86; refine (rfaults_any _).mono ?_; rintro e wF ⟨g, rfl, hg, hL, hbF⟩; have hcF := Hfc.out _ _ hL; have HbF := Lib.hid hbF; clear hbF)
              | (have _ := hL; go_simp; go_at_call 59; refine (HF.out _).mono ?_; rintro e wD ⟨rfl, hbD⟩; have hcD := Hfc.out _ _ (Lies.next hL hbD); have HbD := Lib.hid hbD; clear hbD)
              | (go_simp; go_at_call 59; refine (HF.out _).mono ?_; rintro e wD ⟨rfl, hbD⟩; have HbD := Lib.hid hbD; clear hbD)))
          | fail
        all_goals go_wp2_with fail
        all_goals go_roundw
        all_goals first
          | exact ⟨k + 1, by omega, by omega, by go_num, hrr, Lib.hid ((hB0.trans (HbF.out.mono hB0.size)).trans (HbD.out.mono (hB0.trans (HbF.out.mono hB0.size)).size))⟩
          | exact ⟨k + 1, by omega, by omega, by go_num, hrr, Lib.hid ((hB0.trans (HbD.out.mono hB0.size)).trans (HbF.out.mono (hB0.trans (HbD.out.mono hB0.size)).size))⟩
          | (simp [intOf]; omega)
    · have hz : Hid (r = 0) := Lib.hid (by rw [HN.out, find_no _ 9 (fun j h1 h2 => hr.out j h1 (by omega))]; rfl)
      have hkI : ¬ (k : Int) < 10 := by omega
      go_wp2_with fail
      go_ret
      exact ⟨ret_int (by rw [hz.out]; rfl), hb.out⟩
set_option maxRecDepth 100000 in
set_option maxHeartbeats 3200000 in
theorem rread_any (l : Bs) (w : World) (hl : l.length ≤ 1000000) :
    Calls Tryz.prog 36 #[.string ⟨l.toArray⟩] w fun x w' => x = .returned (valV (vRead l)) ∧ Below w.heap.size w w' := by
  have hN : vRead l = if l = [] then zeroVal else match pParse l with | some q => vNumber q.1 q.2 | none => vWord l := rfl
  have hW : vWord l = if pFold l == yesB then vTruth true else if pFold l == noB then vTruth false else if pFaultNo l ≠ 0 then vBad (pFaultNo l) else vText l := rfl
  have HN := Lib.hid hN
  have HW := Lib.hid hW
  have HL0 := Lib.hid (Lies.new w 38 (valC zeroVal))
  have HB0 := Lib.hid ((Below.refl _ w).alloc (Nat.le_refl _) (.cells (valC zeroVal) 38))
  clear hN hW
  generalize vRead l = out at *
  cases l with
  | nil =>
    rw [if_pos rfl] at HN
    go_enter Tryz.func36, Tryz.ntmps36
    go_wp2_with fail
    refine bodyPost_ret (v := .agg #[.int .i64 0, .int .i64 0, .int .i64 0, .string ⟨#[]⟩, .bool false, .int .i64 0]) (by simp [results, Tryz.results36, go_sem]) rfl ?_
    exact ⟨by rw [HN.out]; rfl, HB0.out⟩
  | cons c l =>
    rw [if_neg (by simp)] at HN
    have hem : ((c :: l) == []) = false := rfl
    generalize c :: l = s at *
    go_enter Tryz.func36, Tryz.ntmps36
    go_wp2_with fail
    refine (rparse_any s _ hl).mono ?_
    rintro e w1 ⟨rfl, hb1⟩
    rw [← parse_eq s]
    have HL1 := Lib.hid (HL0.out.next hb1)
    have HB1 : Hid (Below w.heap.size w w1) := Lib.hid (HB0.out.trans (hb1.mono HB0.out.size))
    clear hb1 HB0 HL0
    cases hp : pParse s with
    | some q =>
      obtain ⟨m, g⟩ := q
      rw [hp] at HN
      unfold numOut
      have HL2 := Lib.hid (HL1.out.alloc (.cells #[.int .i64 m, .int .i64 g] 36))
      have HB2 := Lib.hid (HB1.out.alloc HB1.out.size (.cells #[.int .i64 m, .int .i64 g] 36))
      clear hp
      go_wp2_with fail
      refine (rof_any m g _).mono ?_
      rintro e w2 ⟨rfl, hb2⟩
      obtain ⟨z0, z1, z2, z3, z4, z5, y0, y1, y2, y3, y4, y5⟩ := (HL2.out.next hb2).six
      have HB3 : Hid (Below w.heap.size w w2) := Lib.hid (HB2.out.trans (hb2.mono HB2.out.size))
      clear hb2
      unfold vNumber
      go_wp2_with fail
      refine bodyPost_ret (v := .agg #[.int .i64 1, .int .i64 m, .int .i64 g, .string ⟨#[]⟩, .bool false, .int .i64 0]) (by simp [results, Tryz.results36, go_sem, z0, z1, z2, z3, z4, z5]) rfl ?_
      exact ⟨by rw [HN.out]; rfl, put6_below ⟨1, m, g, [], false, 0⟩ HB3.out (Nat.le_refl _)⟩
    | none =>
      rw [hp] at HN
      unfold numOut
      have HL2 := Lib.hid (HL1.out.alloc (.cells #[.int .i64 0, .int .i64 0] 36))
      have HB2 := Lib.hid (HB1.out.alloc HB1.out.size (.cells #[.int .i64 0, .int .i64 0] 36))
      clear hp HL1 HB1
      go_wp2_with fail
      refine (rfold_any s _ hl).mono ?_
      rintro e w2 ⟨rfl, hb2⟩
      have HL3 := Lib.hid (HL2.out.next hb2)
      have HB3 : Hid (Below w.heap.size w w2) := Lib.hid (HB2.out.trans (hb2.mono HB2.out.size))
      clear hb2 HL2 HB2
      generalize pFold s = u at *
      cases hy : (u == yesB)
      · rw [hy, if_neg (by decide)] at HW
        have ey : (u == [84, 82, 85, 69]) = false := hy
        cases hno : (u == noB)
        · rw [hno, if_neg (by decide)] at HW
          have en : (u == [70, 65, 76, 83, 69]) = false := hno
          clear hy hno
          go_wp2_with fail
          refine (rfaultOf_any s _ hl).mono ?_
          rintro e w3 ⟨rfl, hb3⟩
          have HL4 := Lib.hid (HL3.out.next hb3)
          have HB4 : Hid (Below w.heap.size w w3) := Lib.hid (HB3.out.trans (hb3.mono HB3.out.size))
          clear hb3 HL3 HB3
          generalize pFaultNo s = fn at *
          by_cases h0 : fn = 0
          · rw [if_neg (fun h => h h0)] at HW
            subst h0
            go_wp2_with fail
            refine (rtext_any s _ hl).mono ?_
            rintro e w4 ⟨rfl, hb4⟩
            obtain ⟨z0, z1, z2, z3, z4, z5, y0, y1, y2, y3, y4, y5⟩ := (HL4.out.next hb4).six
            have HB5 : Hid (Below w.heap.size w w4) := Lib.hid (HB4.out.trans (hb4.mono HB4.out.size))
            clear hb4
            generalize vText s = r at *
            obtain ⟨k, m, x, t, tr, f⟩ := r
            go_wp2_with fail
            refine bodyPost_ret (v := .agg #[.int .i64 k, .int .i64 m, .int .i64 x, .string ⟨t.toArray⟩, .bool tr, .int .i64 f]) (by simp [results, Tryz.results36, go_sem, z0, z1, z2, z3, z4, z5]) rfl ?_
            exact ⟨by rw [HN.out, HW.out], put6_below ⟨k, m, x, t, tr, f⟩ HB5.out (Nat.le_refl _)⟩
          · rw [if_pos h0] at HW
            have bn : (0 : Int) < (fn : Int) := by omega
            clear h0
            go_wp2_with fail
            refine (rbad_any (fn : Int) _).mono ?_
            rintro e w4 ⟨rfl, hb4⟩
            obtain ⟨z0, z1, z2, z3, z4, z5, y0, y1, y2, y3, y4, y5⟩ := (HL4.out.next hb4).six
            have HB5 : Hid (Below w.heap.size w w4) := Lib.hid (HB4.out.trans (hb4.mono HB4.out.size))
            clear hb4
            generalize vBad (fn : Int) = r at *
            obtain ⟨k, m, x, t, tr, f⟩ := r
            go_wp2_with fail
            refine bodyPost_ret (v := .agg #[.int .i64 k, .int .i64 m, .int .i64 x, .string ⟨t.toArray⟩, .bool tr, .int .i64 f]) (by simp [results, Tryz.results36, go_sem, z0, z1, z2, z3, z4, z5]) rfl ?_
            exact ⟨by rw [HN.out, HW.out], put6_below ⟨k, m, x, t, tr, f⟩ HB5.out (Nat.le_refl _)⟩
        · rw [hno, if_pos rfl] at HW
          have en : (u == [70, 65, 76, 83, 69]) = true := hno
          clear hy hno
          go_wp2_with fail
          refine (rtruth_any false _).mono ?_
          rintro e w4 ⟨rfl, hb4⟩
          obtain ⟨z0, z1, z2, z3, z4, z5, y0, y1, y2, y3, y4, y5⟩ := (HL3.out.next hb4).six
          have HB5 : Hid (Below w.heap.size w w4) := Lib.hid (HB3.out.trans (hb4.mono HB3.out.size))
          clear hb4
          unfold vTruth
          go_wp2_with fail
          refine bodyPost_ret (v := .agg #[.int .i64 3, .int .i64 0, .int .i64 0, .string ⟨#[]⟩, .bool false, .int .i64 0]) (by simp [results, Tryz.results36, go_sem, z0, z1, z2, z3, z4, z5]) rfl ?_
          exact ⟨by rw [HN.out, HW.out]; rfl, put6_below ⟨3, 0, 0, [], false, 0⟩ HB5.out (Nat.le_refl _)⟩
      · rw [hy, if_pos rfl] at HW
        have ey : (u == [84, 82, 85, 69]) = true := hy
        clear hy
        go_wp2_with fail
        refine (rtruth_any true _).mono ?_
        rintro e w4 ⟨rfl, hb4⟩
        obtain ⟨z0, z1, z2, z3, z4, z5, y0, y1, y2, y3, y4, y5⟩ := (HL3.out.next hb4).six
        have HB5 : Hid (Below w.heap.size w w4) := Lib.hid (HB3.out.trans (hb4.mono HB3.out.size))
        clear hb4
        unfold vTruth
        go_wp2_with fail
        refine bodyPost_ret (v := .agg #[.int .i64 3, .int .i64 0, .int .i64 0, .string ⟨#[]⟩, .bool true, .int .i64 0]) (by simp [results, Tryz.results36, go_sem, z0, z1, z2, z3, z4, z5]) rfl ?_
        exact ⟨by rw [HN.out, HW.out]; rfl, put6_below ⟨3, 0, 0, [], true, 0⟩ HB5.out (Nat.le_refl _)⟩
end Go.Proofs.YteccjdclkcipbaaGreatDoor
