/-
  counterpaneref02.Text, Bad, Truth, Number, Fold, Faults, FaultOf: what they return.
-/
import Derived.Test.YtcgdeoldgnjdeaaDoorVal6
import Derived.Test.YtcgdeoldgnjdeaaDoorPl1
namespace Go.Proofs.YtcgdeoldgnjdeaaDoor
open Go.RowKit

set_option maxHeartbeats 400000 in
theorem rof_any (m e : Int) (w : World) :
    Calls Tryd.prog 70 #[numV m e] w fun x w' => x = .returned (valV (vNumber m e)) ∧ Below w.heap.size w w' := by
  go_enter Tryd.func70, Tryd.ntmps70
  go_wp2
  refine bodyPost_ret (v := .agg #[.int .i64 1, .int .i64 m, .int .i64 e, .string ⟨#[]⟩, .bool false, .int .i64 0]) (by simp [results, Tryd.results70, go_sem]) rfl ?_
  exact ⟨rfl, ((Below.refl _ w).alloc (Nat.le_refl _) _).alloc (by simp) _⟩
set_option maxHeartbeats 400000 in
theorem rtruth_any (b : Bool) (w : World) :
    Calls Tryd.prog 44 #[.bool b] w fun x w' => x = .returned (valV (vTruth b)) ∧ Below w.heap.size w w' := by
  go_enter Tryd.func44, Tryd.ntmps44
  go_wp2
  refine bodyPost_ret (v := .agg #[.int .i64 3, .int .i64 0, .int .i64 0, .string ⟨#[]⟩, .bool b, .int .i64 0]) (by simp [results, Tryd.results44, go_sem]) rfl ?_
  exact ⟨rfl, (Below.refl _ w).alloc (Nat.le_refl _) _⟩
set_option maxHeartbeats 800000 in
theorem rbad_any (f : Int) (w : World) :
    Calls Tryd.prog 42 #[.int .i64 f] w fun x w' => x = .returned (valV (vBad f)) ∧ Below w.heap.size w w' := by
  have hN : vBad f = ⟨4, 0, 0, [], false, if f < 1 ∨ 9 < f then 9 else f⟩ := rfl
  have HN := Lib.hid hN
  clear hN
  generalize vBad f = r at *
  by_cases h1 : f < 1
  · rw [if_pos (.inl h1)] at HN
    go_enter Tryd.func42, Tryd.ntmps42
    go_wp2
    refine bodyPost_ret (v := .agg #[.int .i64 4, .int .i64 0, .int .i64 0, .string ⟨#[]⟩, .bool false, .int .i64 9]) (by simp [results, Tryd.results42, go_sem]) rfl ?_
    exact ⟨by rw [HN.out], (Below.refl _ w).alloc (Nat.le_refl _) _⟩
  by_cases h2 : 9 < f
  · rw [if_pos (.inr h2)] at HN
    go_enter Tryd.func42, Tryd.ntmps42
    go_wp2
    refine bodyPost_ret (v := .agg #[.int .i64 4, .int .i64 0, .int .i64 0, .string ⟨#[]⟩, .bool false, .int .i64 9]) (by simp [results, Tryd.results42, go_sem]) rfl ?_
    exact ⟨by rw [HN.out], (Below.refl _ w).alloc (Nat.le_refl _) _⟩
  rw [if_neg (by omega)] at HN
  go_enter Tryd.func42, Tryd.ntmps42
  go_wp2
  refine bodyPost_ret (v := .agg #[.int .i64 4, .int .i64 0, .int .i64 0, .string ⟨#[]⟩, .bool false, .int .i64 f]) (by simp [results, Tryd.results42, go_sem]) rfl ?_
  exact ⟨by rw [HN.out], (Below.refl _ w).alloc (Nat.le_refl _) _⟩
set_option maxHeartbeats 800000 in
theorem rtext_any (l : Bs) (w : World) (hl : l.length ≤ 1000000) :
    Calls Tryd.prog 40 #[.string ⟨l.toArray⟩] w fun x w' => x = .returned (valV (vText l)) ∧ Below w.heap.size w w' := by
  have hN : vText l = if 255 < l.length then vBad 2 else ⟨2, 0, 0, l, false, 0⟩ := rfl
  have HN := Lib.hid hN
  clear hN
  generalize vText l = r at *
  by_cases h1 : 255 < l.length
  · rw [if_pos h1] at HN
    have hL := Lib.hid (Lies.new w 41 (valC zeroVal))
    have HB := Lib.hid ((Below.refl _ w).alloc (Nat.le_refl _) (.cells (valC zeroVal) 41))
    go_enter Tryd.func40, Tryd.ntmps40
    go_wp2_with fail
    refine (rbad_any 2 _).mono ?_
    rintro e w1 ⟨rfl, hb⟩
    obtain ⟨z0, z1, z2, z3, z4, z5, y0, y1, y2, y3, y4, y5⟩ := (hL.out.next hb).six
    have HB1 : Hid (Below w.heap.size w w1) := Lib.hid (HB.out.trans (hb.mono HB.out.size))
    clear hb
    unfold vBad
    go_wp2_with fail
    refine bodyPost_ret (v := .agg #[.int .i64 4, .int .i64 0, .int .i64 0, .string ⟨#[]⟩, .bool false, .int .i64 2]) (by simp [results, Tryd.results40, go_sem, z0, z1, z2, z3, z4, z5]) rfl ?_
    exact ⟨by rw [HN.out]; rfl, put6_below ⟨4, 0, 0, [], false, 2⟩ HB1.out (Nat.le_refl _)⟩
  · rw [if_neg h1] at HN
    go_enter Tryd.func40, Tryd.ntmps40
    go_wp2_with fail
    refine bodyPost_ret (v := .agg #[.int .i64 2, .int .i64 0, .int .i64 0, .string ⟨l.toArray⟩, .bool false, .int .i64 0]) (by simp [results, Tryd.results40, go_sem]) rfl ?_
    exact ⟨by rw [HN.out], (Below.refl _ w).alloc (Nat.le_refl _) _⟩
theorem conv_one (w : World) (n : Nat) (c : UInt8) (x : Int) (hx : ((c.toNat : Nat) : Int) = x) (hn : n = w.heap.size) : (convert 36 9 (.slice (some ⟨n, 0, none⟩) 1 1)).run Tryd.prog (w.alloc (.cells #[.int .u8 x] 5)) = .ok (.string ⟨[c].toArray⟩) (w.alloc (.cells #[.int .u8 x] 5)) := by
  subst hn
  subst hx
  refine conv_back [c] _ w.heap.size 1 1 rfl ?_
  intro j hj
  have hl := Lies.new w 5 #[.int .u8 (c.toNat : Int)]
  have : j = 0 := by simpa using hj
  subst this
  exact ⟨hl.cell 0, hl.frozen 0⟩
set_option maxRecDepth 100000 in
set_option maxHeartbeats 1600000 in
theorem rfold_any (l : Bs) (w : World) (hs : l.length ≤ 1000000) :
    Calls Tryd.prog 31 #[.string ⟨l.toArray⟩] w fun e w' => e = .returned (.string ⟨(pFold l).toArray⟩) ∧ Below w.heap.size w w' := by
  go_enter Tryd.func31, Tryd.ntmps31
  go_wp2_with fail
  go_loopw [3, 4] (fun v i wr => ∃ k : Nat, k ≤ l.length ∧ i = .int .i64 k ∧ v = .string ⟨(pFold (l.take k)).toArray⟩ ∧ Hid (Below w.heap.size w wr)) (fun _ i _ => l.length - (intOf i).toNat)
  case atStart => exact ⟨0, Nat.zero_le _, rfl, rfl, Lib.hid (Below.refl _ _)⟩
  case round =>
    obtain ⟨k, hk, rfl, rfl, hb⟩ := hrel
    by_cases hlt : k < l.length
    · have hsn : pFold (l.take (k + 1)) = pFold (l.take k) ++ [up l[k]] := by rw [List.take_succ_eq_append_getElem hlt]; unfold pFold; rw [List.map_append]; rfl
      have HSn := Lib.hid hsn
      have hpl : (pFold (l.take k)).length ≤ 1000000 := by rw [pFold_len, List.length_take]; omega
      have HB2 : Hid (∀ o, Below w.heap.size w (wr.alloc o)) := Lib.hid (fun o => hb.out.alloc hb.out.size o)
      clear hsn
      generalize pFold (l.take k) = D at *
      cases hlow : isLow l[k]
      · have hu := up_other _ hlow
        rw [hu] at HSn
        have hno : ¬ (97 ≤ (l[k].toNat : Int) ∧ (l[k].toNat : Int) ≤ 122) := by
          intro h
          have : isLow l[k] = true := (isLow_iff _).2 ⟨by omega, by omega⟩
          rw [hlow] at this; cases this
        have hcv := conv_one wr wr.heap.size l[k] (l[k].toNat : Int) rfl rfl
        clear hu
        go_wp2_with fail
        all_goals go_roundw
        all_goals first
          | exact ⟨k + 1, by omega, by go_num, by rw [HSn.out], Lib.hid (HB2.out _)⟩
          | (simp [intOf]; omega)
      · obtain ⟨h97, h122⟩ := (isLow_iff _).1 hlow
        have hcv := conv_one wr wr.heap.size (up l[k]) ((l[k].toNat : Int) - 32) (by have := up_low _ hlow; omega) rfl
        go_wp2_with fail
        go_roundw
        case rel => exact ⟨k + 1, by omega, by go_num, by rw [HSn.out], Lib.hid (HB2.out _)⟩
        case measure => simp [intOf]; omega
    · have hall : Hid (l.take k = l) := Lib.hid (List.take_of_length_le (by omega))
      go_wp2_with fail
      go_ret
      exact ⟨by rw [hall.out]; rfl, hb.out⟩
def faults02 : List Bs := (List.range 10).map faultB
set_option maxHeartbeats 400000 in
theorem rfaults_any (w : World) :
    Calls Tryd.prog 72 #[] w fun e w' => ∃ g, e = .returned (.slice (some ⟨g, 0, none⟩) 10 10) ∧ w.heap.size ≤ g ∧ Lies w' g 9 (faults02.map fun s => Value.string ⟨s.toArray⟩).toArray ∧ Below w.heap.size w w' := by
  go_enter Tryd.func72, Tryd.ntmps72
  go_wp2
  go_ret
  exact ⟨w.heap.size, rfl, Nat.le_refl _, Lies.new w 9 _, (Below.refl _ w).alloc (Nat.le_refl _) _⟩
theorem faults_cell {w : World} {g : Nat} (h : Lies w g 9 (faults02.map fun s => Value.string ⟨s.toArray⟩).toArray) (k : Nat) (hk : k < 10) : w.cell? ⟨g, k, none⟩ = some (.string ⟨(faultB k).toArray⟩) := by
  rw [h.cell]
  simp [faults02, hk]
set_option maxRecDepth 100000 in
set_option maxHeartbeats 3200000 in
theorem rfaultOf_any (l : Bs) (w : World) (hl : l.length ≤ 1000000) :
    Calls Tryd.prog 33 #[.string ⟨l.toArray⟩] w fun e w' => e = .returned (.int .i64 (pFaultNo l : Int)) ∧ Below w.heap.size w w' := by
  have hN : pFaultNo l = ((List.range' 1 9).find? fun k => pFold l == faultB k).getD 0 := rfl
  have HN := Lib.hid hN
  clear hN
  have HF := Lib.hid (fun W => rfold_any l W hl)
  generalize pFaultNo l = r at *
  generalize pFold l = u at *
  go_enter Tryd.func33, Tryd.ntmps33
  go_wp2_with fail
  go_loopw [3] (fun i wr => ∃ k : Nat, 1 ≤ k ∧ k ≤ 10 ∧ i = .int .i64 k ∧ Hid (∀ j, 1 ≤ j → j < k → (u == faultB j) = false) ∧ Hid (Below w.heap.size w wr)) (fun i _ => 10 - (intOf i).toNat)
  case atStart => exact ⟨1, by omega, by omega, rfl, Lib.hid (fun j h1 h2 => by omega), Lib.hid (Below.refl _ _)⟩
  case round =>
    obtain ⟨k, hk1, hk2, rfl, hr, hb⟩ := hrel
    by_cases hlt : k < 10
    · have hkI : (k : Int) < 10 := by omega
      have hk0 : (0 : Int) ≤ (k : Int) := by omega
      have HQ : Hid (u = faultB k → r = k) := Lib.hid (fun h => by rw [HN.out, find_first _ 9 k hk1 (by omega) (by rw [h]; simp) hr.out]; rfl)
      have HR : Hid (u ≠ faultB k → ∀ j, 1 ≤ j → j < k + 1 → (u == faultB j) = false) := Lib.hid (fun h j h1 h2 => by
        by_cases e : j = k
        · rw [e, beq_eq_false_iff_ne]; exact h
        · exact hr.out j h1 (by omega))
      have Hfc : Hid (∀ (W : World) (g : Nat), Lies W g 9 (faults02.map fun s => Value.string ⟨s.toArray⟩).toArray → W.cell? ⟨g, k, none⟩ = some (.string ⟨(faultB k).toArray⟩)) := Lib.hid (fun W g h => faults_cell h k hlt)
      generalize faultB k = t at *
      have hB0 := hb.out.drew
      have tok : True := trivial
      have hw0 : ∀ W : World, W = wr.drew → Hid (Below w.heap.size w W) := fun W e => Lib.hid (by rw [e]; exact hB0)
      by_cases hu : u = t
      · have e1 : (t == u) = true := by rw [hu]; simp
        have hrk : Hid (r = k) := Lib.hid (HQ.out hu)
        clear hu
        go_wp2_with fail
        first
          | (go_region_law (first
              | (have _ := tok; go_simp; go_at_call 72; refine (rfaults_any _).mono ?_; rintro e wF ⟨g, rfl, hg, hL, hbF⟩; have hcF := Hfc.out _ _ hL; have HbF := Lib.hid hbF; clear hbF)
              | (have _ := hL; go_simp; go_at_call 31; refine (HF.out _).mono ?_; rintro e wD ⟨rfl, hbD⟩; have hcD := Hfc.out _ _ (Lies.next hL hbD); have HbD := Lib.hid hbD; clear hbD)
              | (go_simp; go_at_call 31; refine (HF.out _).mono ?_; rintro e wD ⟨rfl, hbD⟩; have HbD := Lib.hid hbD; clear hbD)))
          | fail
        all_goals go_wp2_with fail
        all_goals go_ret
        all_goals refine ⟨ret_int (by rw [hrk.out]), ?_⟩
        all_goals first
          | exact (hB0.trans (HbF.out.mono hB0.size)).trans (HbD.out.mono (hB0.trans (HbF.out.mono hB0.size)).size)
          | exact (hB0.trans (HbD.out.mono hB0.size)).trans (HbF.out.mono (hB0.trans (HbD.out.mono hB0.size)).size)
      · have e1 : (t == u) = false := by rw [beq_eq_false_iff_ne]; exact fun h => hu h.symm
        have hrr := Lib.hid (HR.out hu)
        clear hu
        go_wp2_with fail
        first
          | (go_region_law (first
              | (have _ := tok; go_simp; go_at_call 72; refine (rfaults_any _).mono ?_; rintro e wF ⟨g, rfl, hg, hL, hbF⟩; have hcF := Hfc.out _ _ hL; have HbF := Lib.hid hbF; clear hbF)
              | (have _ := hL; go_simp; go_at_call 31; refine (HF.out _).mono ?_; rintro e wD ⟨rfl, hbD⟩; have hcD := Hfc.out _ _ (Lies.next hL hbD); have HbD := Lib.hid hbD; clear hbD)
              | (go_simp; go_at_call 31; refine (HF.out _).mono ?_; rintro e wD ⟨rfl, hbD⟩; have HbD := Lib.hid hbD; clear hbD)))
          | fail
        all_goals go_wp2_with fail
        all_goals go_roundw
        all_goals first
          | exact ⟨k + 1, by omega, by omega, by go_num, hrr, Lib.hid ((hB0.trans (HbF.out.mono hB0.size)).trans (HbD.out.mono (hB0.trans (HbF.out.mono hB0.size)).size))⟩
          | exact ⟨k + 1, by omega, by omega, by go_num, hrr, Lib.hid ((hB0.trans (HbD.out.mono hB0.size)).trans (HbF.out.mono (hB0.trans (HbD.out.mono hB0.size)).size))⟩
          | (simp [intOf]; omega)
    · have hz : Hid (r = 0) := Lib.hid (by rw [HN.out, find_no _ 9 (fun j h1 h2 => hr.out j h1 (by omega))]; rfl)
      have hkI : ¬ (k : Int) < 10 := by omega
      go_wp2_with fail
      go_ret
      exact ⟨ret_int (by rw [hz.out]; rfl), hb.out⟩
end Go.Proofs.YtcgdeoldgnjdeaaDoor
