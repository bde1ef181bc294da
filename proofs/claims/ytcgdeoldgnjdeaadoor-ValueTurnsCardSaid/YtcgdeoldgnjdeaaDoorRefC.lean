/-
  counterpaneref02.ToNum, ToText, ToTruth, FaultText, Show of values that may be: what they return.
-/
import Derived.Test.YtcgdeoldgnjdeaaDoorRefT
import Derived.Test.YtcgdeoldgnjdeaaDoorRefB4
import Derived.Test.YtcgdeoldgnjdeaaDoorVal12
import Derived.Test.YtcgdeoldgnjdeaaDoorShownP
namespace Go.Proofs.YtcgdeoldgnjdeaaDoor
open Go.RowKit

theorem right_forms (v : Val) (hR : vRight v = true) : v = ⟨0, 0, 0, [], false, 0⟩ ∨ (∃ m e, v = ⟨1, m, e, [], false, 0⟩ ∧ pRight m e = true) ∨ (∃ t, v = ⟨2, 0, 0, t, false, 0⟩ ∧ t.length ≤ 255)
    ∨ (∃ b, v = ⟨3, 0, 0, [], b, 0⟩) ∨ (∃ f, v = ⟨4, 0, 0, [], false, f⟩ ∧ 1 ≤ f ∧ f ≤ 9) := by
  rcases kinds_right' hR with h | h | h | h | h
  · exact .inl ((vSame_iff _ _).1 ((vRight_blank v h).symm.trans hR))
  · have k := (vRight_num v h).symm.trans hR
    obtain ⟨k1, k2⟩ := Bool.and_eq_true_iff.1 k
    exact .inr (.inl ⟨_, _, (vSame_iff _ _).1 k2, k1⟩)
  · have k := (vSame_iff _ _).1 ((vRight_text v h).symm.trans hR)
    rcases Nat.lt_or_ge 255 v.text.length with hl | hl
    · have : vText v.text = vBad 2 := if_pos hl
      rw [this] at k
      rw [k] at h
      exact absurd h (by decide)
    · have : vText v.text = ⟨2, 0, 0, v.text, false, 0⟩ := if_neg (by omega)
      rw [this] at k
      exact .inr (.inr (.inl ⟨_, k, hl⟩))
  · exact .inr (.inr (.inr (.inl ⟨_, (vSame_iff _ _).1 ((vRight_truth v h).symm.trans hR)⟩)))
  · have k := (vSame_iff _ _).1 ((vRight_fault v h).symm.trans hR)
    refine .inr (.inr (.inr (.inr ⟨v.fault, ?_, ?_⟩)))
    · rw [k]
      show (⟨4, 0, 0, [], false, if v.fault < 1 ∨ 9 < v.fault then 9 else v.fault⟩ : Val) = ⟨4, 0, 0, [], false, (vBad v.fault).fault⟩
      rfl
    · rw [k]
      show 1 ≤ (if v.fault < 1 ∨ 9 < v.fault then 9 else v.fault) ∧ (if v.fault < 1 ∨ 9 < v.fault then 9 else v.fault) ≤ 9
      split <;> omega
set_option maxRecDepth 100000 in
set_option maxHeartbeats 6400000 in
theorem rToNum_right (v : Val) (w : World) (hR : vRight v = true) :
    Calls Tryd.prog 59 #[valV v] w fun x w' => x = .returned (.tuple #[numV (vToNum v).1.1 (vToNum v).1.2, .int .i64 (vToNum v).2]) ∧ Below w.heap.size w w' := by
  rcases right_forms v hR with rfl | ⟨m, e, rfl, h⟩ | ⟨t, rfl, h⟩ | ⟨b, rfl⟩ | ⟨f, rfl, h1, h2⟩
  · clear hR
    go_enter Tryd.func59, Tryd.ntmps59
    go_wp2_with fail
    refine bodyPost_ret (v := .tuple #[.agg #[.int .i64 0, .int .i64 0], .int .i64 0]) (by simp [results, Tryd.results59, go_sem]) rfl ?_
    exact ⟨rfl, ((Below.refl _ w).alloc (Nat.le_refl _) _).alloc (by simp) _⟩
  · clear hR
    have hN : vToNum ⟨1, m, e, [], false, 0⟩ = ((m, e), 0) := rfl
    rw [hN]
    go_enter Tryd.func59, Tryd.ntmps59
    go_wp2_with fail
    refine bodyPost_ret (v := .tuple #[.agg #[.int .i64 m, .int .i64 e], .int .i64 0]) (by simp [results, Tryd.results59, go_sem]) rfl ?_
    exact ⟨rfl, ((Below.refl _ w).alloc (Nat.le_refl _) _).alloc (by simp) _⟩
  · clear hR
    have hN : vToNum ⟨2, 0, 0, t, false, 0⟩ = (match pParse t with | some q => (q, 0) | none => ((0, 0), 2)) := rfl
    have HN := Lib.hid hN
    clear hN
    generalize vToNum ⟨2, 0, 0, t, false, 0⟩ = r at *
    have HB : Hid (Below w.heap.size w ((w.alloc (.cells (valC ⟨2, 0, 0, t, false, 0⟩) 41)).alloc (.cells #[.int .i64 0, .int .i64 0] 39))) := Lib.hid (two_new w _)
    have HL : Hid (Lies ((w.alloc (.cells (valC ⟨2, 0, 0, t, false, 0⟩) 41)).alloc (.cells #[.int .i64 0, .int .i64 0] 39)) (w.heap.size + 1) 39 #[.int .i64 0, .int .i64 0]) := Lib.hid (by have := Lies.new (w.alloc (.cells (valC ⟨2, 0, 0, t, false, 0⟩) 41)) 39 #[.int .i64 0, .int .i64 0]; simpa using this)
    go_enter Tryd.func59, Tryd.ntmps59
    go_wp2_with fail
    refine (rparse_any t _ (by omega)).mono ?_
    rintro e w1 ⟨rfl, hb1⟩
    rw [← parse_eq t]
    have HL1 := Lib.hid (HL.out.next hb1)
    have HB1 : Hid (Below w.heap.size w w1) := Lib.hid (HB.out.trans (hb1.mono HB.out.size))
    clear hb1 HB HL h
    cases hp : pParse t with
    | some q =>
      obtain ⟨mm, gg⟩ := q
      rw [hp] at HN
      unfold numOut
      have q0 := HL1.out.cell 0
      have q1 := HL1.out.cell 1
      have f0 := HL1.out.frozen 0
      have f1 := HL1.out.frozen 1
      have hlt := HL1.out.lt
      simp only [List.getElem?_toArray, List.getElem?_cons_zero, List.getElem?_cons_succ] at q0 q1
      clear hp
      go_wp2_with fail
      refine bodyPost_ret (v := .tuple #[.agg #[.int .i64 mm, .int .i64 gg], .int .i64 0]) (by simp [results, Tryd.results59, go_sem, q0, q1, hlt]) rfl ?_
      exact ⟨by rw [HN.out], (put2_below HB1.out (Nat.le_succ _) _ _).alloc (put2_below HB1.out (Nat.le_succ _) _ _).size _⟩
    | none =>
      rw [hp] at HN
      unfold numOut
      have q0 := HL1.out.cell 0
      have q1 := HL1.out.cell 1
      have f0 := HL1.out.frozen 0
      have f1 := HL1.out.frozen 1
      have hlt := HL1.out.lt
      simp only [List.getElem?_toArray, List.getElem?_cons_zero, List.getElem?_cons_succ] at q0 q1
      clear hp
      go_wp2_with fail
      refine bodyPost_ret (v := .tuple #[.agg #[.int .i64 0, .int .i64 0], .int .i64 2]) (by simp [results, Tryd.results59, go_sem, q0, q1, hlt]) rfl ?_
      exact ⟨by rw [HN.out], (put2_below HB1.out (Nat.le_succ _) _ _).alloc (put2_below HB1.out (Nat.le_succ _) _ _).size _⟩
  · clear hR
    cases b
    · go_enter Tryd.func59, Tryd.ntmps59
      go_wp2_with fail
      refine bodyPost_ret (v := .tuple #[.agg #[.int .i64 0, .int .i64 0], .int .i64 0]) (by simp [results, Tryd.results59, go_sem]) rfl ?_
      exact ⟨rfl, ((Below.refl _ w).alloc (Nat.le_refl _) _).alloc (by simp) _⟩
    · go_enter Tryd.func59, Tryd.ntmps59
      go_wp2_with fail
      refine bodyPost_ret (v := .tuple #[.agg #[.int .i64 1, .int .i64 0], .int .i64 0]) (by simp [results, Tryd.results59, go_sem]) rfl ?_
      exact ⟨rfl, ((Below.refl _ w).alloc (Nat.le_refl _) _).alloc (by simp) _⟩
  · clear hR
    have hN : vToNum ⟨4, 0, 0, [], false, f⟩ = ((0, 0), f) := rfl
    rw [hN]
    go_enter Tryd.func59, Tryd.ntmps59
    go_wp2_with fail
    go_region
    all_goals go_wp2_with fail
    all_goals refine bodyPost_ret (v := .tuple #[.agg #[.int .i64 0, .int .i64 0], .int .i64 f]) (by simp [results, Tryd.results59, go_sem]) rfl ?_
    all_goals exact ⟨rfl, by first | exact (((Below.refl _ w).alloc (Nat.le_refl _) _).alloc (by simp) _).drew | exact ((Below.refl _ w).drew.alloc (Nat.le_refl _) _).alloc (by simp) _⟩
set_option maxRecDepth 100000 in
set_option maxHeartbeats 6400000 in
theorem rToText_right (v : Val) (w : World) (hR : vRight v = true) :
    Calls Tryd.prog 61 #[valV v] w fun x w' => x = .returned (.tuple #[.string ⟨(vToText v).1.toArray⟩, .int .i64 (vToText v).2]) ∧ Below w.heap.size w w' := by
  rcases right_forms v hR with rfl | ⟨m, e, rfl, h⟩ | ⟨t, rfl, h⟩ | ⟨b, rfl⟩ | ⟨f, rfl, h1, h2⟩
  · clear hR
    go_enter Tryd.func61, Tryd.ntmps61
    go_wp2_with fail
    refine bodyPost_ret (v := .tuple #[.string ⟨#[]⟩, .int .i64 0]) (by simp [results, Tryd.results61, go_sem]) rfl ?_
    exact ⟨rfl, (Below.refl _ w).alloc (Nat.le_refl _) _⟩
  · clear hR
    have hN : vToText ⟨1, m, e, [], false, 0⟩ = (nText m e, 0) := rfl
    rw [hN]
    have C := Lib.hid (fun W => rNText_right m e W (pRight_bd h).1 (pRight_bd h).2 h)
    have HB : Hid (Below w.heap.size w (w.alloc (.cells (valC ⟨1, m, e, [], false, 0⟩) 41))) := Lib.hid ((Below.refl _ w).alloc (Nat.le_refl _) _)
    generalize nText m e = s at *
    go_enter Tryd.func61, Tryd.ntmps61
    go_wp2_with fail
    refine (C.out _).mono ?_
    rintro x w1 ⟨rfl, hb⟩
    have HB1 : Hid (Below w.heap.size w w1) := Lib.hid (HB.out.trans (hb.mono HB.out.size))
    clear hb
    go_wp2_with fail
    refine bodyPost_ret (v := .tuple #[.string ⟨s.toArray⟩, .int .i64 0]) (by simp [results, Tryd.results61, go_sem]) rfl ?_
    exact ⟨rfl, HB1.out⟩
  · clear hR
    have hN : vToText ⟨2, 0, 0, t, false, 0⟩ = (t, 0) := rfl
    rw [hN]
    go_enter Tryd.func61, Tryd.ntmps61
    go_wp2_with fail
    refine bodyPost_ret (v := .tuple #[.string ⟨t.toArray⟩, .int .i64 0]) (by simp [results, Tryd.results61, go_sem]) rfl ?_
    exact ⟨rfl, (Below.refl _ w).alloc (Nat.le_refl _) _⟩
  · clear hR
    cases b
    · go_enter Tryd.func61, Tryd.ntmps61
      go_wp2_with fail
      refine bodyPost_ret (v := .tuple #[.string ⟨#[70, 65, 76, 83, 69]⟩, .int .i64 0]) (by simp [results, Tryd.results61, go_sem]) rfl ?_
      exact ⟨rfl, (Below.refl _ w).alloc (Nat.le_refl _) _⟩
    · go_enter Tryd.func61, Tryd.ntmps61
      go_wp2_with fail
      refine bodyPost_ret (v := .tuple #[.string ⟨#[84, 82, 85, 69]⟩, .int .i64 0]) (by simp [results, Tryd.results61, go_sem]) rfl ?_
      exact ⟨rfl, (Below.refl _ w).alloc (Nat.le_refl _) _⟩
  · clear hR
    have hN : vToText ⟨4, 0, 0, [], false, f⟩ = ([], f) := rfl
    rw [hN]
    go_enter Tryd.func61, Tryd.ntmps61
    go_wp2_with fail
    go_region
    all_goals go_wp2_with fail
    all_goals refine bodyPost_ret (v := .tuple #[.string ⟨#[]⟩, .int .i64 f]) (by simp [results, Tryd.results61, go_sem]) rfl ?_
    all_goals exact ⟨rfl, by first | exact ((Below.refl _ w).alloc (Nat.le_refl _) _).drew | exact (Below.refl _ w).drew.alloc (Nat.le_refl _) _⟩
set_option maxRecDepth 100000 in
set_option maxHeartbeats 6400000 in
theorem rToTruth_right (v : Val) (w : World) (hR : vRight v = true) :
    Calls Tryd.prog 63 #[valV v] w fun x w' => x = .returned (.tuple #[.bool (vToTruth v).1, .int .i64 (vToTruth v).2]) ∧ Below w.heap.size w w' := by
  rcases right_forms v hR with rfl | ⟨m, e, rfl, h⟩ | ⟨t, rfl, h⟩ | ⟨b, rfl⟩ | ⟨f, rfl, h1, h2⟩
  · clear hR
    go_enter Tryd.func63, Tryd.ntmps63
    go_wp2_with fail
    refine bodyPost_ret (v := .tuple #[.bool false, .int .i64 0]) (by simp [results, Tryd.results63, go_sem]) rfl ?_
    exact ⟨rfl, (Below.refl _ w).alloc (Nat.le_refl _) _⟩
  · clear hR
    have hN : vToTruth ⟨1, m, e, [], false, 0⟩ = (m != 0, 0) := rfl
    rw [hN]
    go_enter Tryd.func63, Tryd.ntmps63
    go_wp2_with fail
    refine bodyPost_ret (v := .tuple #[.bool (m != 0), .int .i64 0]) (by simp [results, Tryd.results63, go_sem]) rfl ?_
    exact ⟨rfl, (Below.refl _ w).alloc (Nat.le_refl _) _⟩
  · clear hR
    have hN : vToTruth ⟨2, 0, 0, t, false, 0⟩ = (if pFold t == yesB then (true, 0) else if pFold t == noB then (false, 0) else (false, 2)) := rfl
    have HN := Lib.hid hN
    clear hN
    generalize vToTruth ⟨2, 0, 0, t, false, 0⟩ = r at *
    have C := Lib.hid (fun W => rfold_any t W (by omega))
    have HB : Hid (Below w.heap.size w (w.alloc (.cells (valC ⟨2, 0, 0, t, false, 0⟩) 41))) := Lib.hid ((Below.refl _ w).alloc (Nat.le_refl _) _)
    generalize pFold t = u at *
    go_enter Tryd.func63, Tryd.ntmps63
    go_wp2_with fail
    refine (C.out _).mono ?_
    rintro x w1 ⟨rfl, hb⟩
    have HB1 : Hid (Below w.heap.size w w1) := Lib.hid (HB.out.trans (hb.mono HB.out.size))
    clear hb HB
    cases hy : (u == yesB)
    · rw [hy, if_neg (by decide)] at HN
      have ey : (u == [84, 82, 85, 69]) = false := hy
      cases hno : (u == noB)
      · rw [hno, if_neg (by decide)] at HN
        have en : (u == [70, 65, 76, 83, 69]) = false := hno
        clear hy hno
        go_wp2_with fail
        refine bodyPost_ret (v := .tuple #[.bool false, .int .i64 2]) (by simp [results, Tryd.results63, go_sem]) rfl ?_
        exact ⟨by rw [HN.out], HB1.out⟩
      · rw [hno, if_pos rfl] at HN
        have en : (u == [70, 65, 76, 83, 69]) = true := hno
        clear hy hno
        go_wp2_with fail
        refine bodyPost_ret (v := .tuple #[.bool false, .int .i64 0]) (by simp [results, Tryd.results63, go_sem]) rfl ?_
        exact ⟨by rw [HN.out], HB1.out⟩
    · rw [hy, if_pos rfl] at HN
      have ey : (u == [84, 82, 85, 69]) = true := hy
      clear hy
      go_wp2_with fail
      refine bodyPost_ret (v := .tuple #[.bool true, .int .i64 0]) (by simp [results, Tryd.results63, go_sem]) rfl ?_
      exact ⟨by rw [HN.out], HB1.out⟩
  · clear hR
    cases b
    · go_enter Tryd.func63, Tryd.ntmps63
      go_wp2_with fail
      refine bodyPost_ret (v := .tuple #[.bool false, .int .i64 0]) (by simp [results, Tryd.results63, go_sem]) rfl ?_
      exact ⟨rfl, (Below.refl _ w).alloc (Nat.le_refl _) _⟩
    · go_enter Tryd.func63, Tryd.ntmps63
      go_wp2_with fail
      refine bodyPost_ret (v := .tuple #[.bool true, .int .i64 0]) (by simp [results, Tryd.results63, go_sem]) rfl ?_
      exact ⟨rfl, (Below.refl _ w).alloc (Nat.le_refl _) _⟩
  · clear hR
    have hN : vToTruth ⟨4, 0, 0, [], false, f⟩ = (false, f) := rfl
    rw [hN]
    go_enter Tryd.func63, Tryd.ntmps63
    go_wp2_with fail
    go_region
    all_goals go_wp2_with fail
    all_goals refine bodyPost_ret (v := .tuple #[.bool false, .int .i64 f]) (by simp [results, Tryd.results63, go_sem]) rfl ?_
    all_goals exact ⟨rfl, by first | exact ((Below.refl _ w).alloc (Nat.le_refl _) _).drew | exact (Below.refl _ w).drew.alloc (Nat.le_refl _) _⟩
theorem pFaultText_at (f : Int) (k : Nat) (hf : f = k) (h1 : 1 ≤ k) (h9 : k ≤ 9) : pFaultText f = faultB k := by
  subst hf
  have h : k = 1 ∨ k = 2 ∨ k = 3 ∨ k = 4 ∨ k = 5 ∨ k = 6 ∨ k = 7 ∨ k = 8 ∨ k = 9 := by omega
  rcases h with rfl | rfl | rfl | rfl | rfl | rfl | rfl | rfl | rfl <;> rfl
set_option maxRecDepth 100000 in
set_option maxHeartbeats 6400000 in
theorem rfaultText_any (f : Int) (w : World) :
    Calls Tryd.prog 104 #[.int .i64 f] w fun x w' => x = .returned (.string ⟨(pFaultText f).toArray⟩) ∧ Below w.heap.size w w' := by
  by_cases h1 : f < 1
  · have hN : pFaultText f = [] := if_neg (by omega)
    rw [hN]
    have d1 : decide (f < 1) = true := decide_eq_true h1
    go_enter Tryd.func104, Tryd.ntmps104
    go_wp2_with fail
    go_ret
    exact ⟨rfl, Below.refl _ _⟩
  have d1 : decide (f < 1) = false := decide_eq_false h1
  by_cases h9 : 9 < f
  · have hN : pFaultText f = [] := if_neg (by omega)
    rw [hN]
    have d9 : decide (9 < f) = true := decide_eq_true h9
    go_enter Tryd.func104, Tryd.ntmps104
    go_wp2_with fail
    go_ret
    exact ⟨rfl, Below.refl _ _⟩
  have d9 : decide (9 < f) = false := decide_eq_false h9
  obtain ⟨k, rfl⟩ : ∃ k : Nat, f = k := ⟨f.toNat, by omega⟩
  have hk : k < 10 := by omega
  have k0 : (0 : Int) ≤ (k : Int) := by omega
  have k9 : (k : Int) < 10 := by omega
  rw [pFaultText_at k k rfl (by omega) (by omega)]
  clear h1 h9
  go_enter Tryd.func104, Tryd.ntmps104
  go_wp2_with fail
  refine (rfaults_any _).mono ?_
  rintro x w1 ⟨g, rfl, hg, hL, hb⟩
  have hc := faults_cell hL k hk
  have HB := Lib.hid hb
  clear hb hL hg
  go_wp2_with fail
  go_ret
  exact ⟨rfl, HB.out⟩
theorem show_parts (v : Val) (hR : vRight v = true) : vShow v = (vToText v).1 ++ pFaultText (vToText v).2 ∧ (vToText v).1.length ≤ 1000 := by
  rcases right_forms v hR with rfl | ⟨m, e, rfl, h⟩ | ⟨t, rfl, h⟩ | ⟨b, rfl⟩ | ⟨f, rfl, h1, h2⟩
  · exact ⟨rfl, by decide⟩
  · refine ⟨?_, ?_⟩
    · show nText m e = nText m e ++ []
      simp
    · show (nText m e).length ≤ 1000
      rcases Nat.lt_or_ge 255 (nText m e).length with hl | hl
      · have hp := parse_text _ _ h
        unfold pParse at hp
        rw [if_pos hl] at hp
        cases hp
      · omega
  · refine ⟨?_, ?_⟩
    · show t = t ++ []
      simp
    · show t.length ≤ 1000
      omega
  · cases b <;> exact ⟨rfl, by decide⟩
  · exact ⟨rfl, by show 0 ≤ 1000; omega⟩
theorem faultText_len (f : Int) : (pFaultText f).length ≤ 20 := by
  by_cases hf : 1 ≤ f ∧ f ≤ 9
  · exact (read_fault _ hf.1 hf.2).2.2.2
  · have : pFaultText f = [] := if_neg hf
    rw [this]
    decide
set_option maxRecDepth 100000 in
set_option maxHeartbeats 6400000 in
theorem rShow_right (v : Val) (w : World) (hR : vRight v = true) :
    Calls Tryd.prog 64 #[valV v] w fun x w' => x = .returned (.string ⟨(vShow v).toArray⟩) ∧ Below w.heap.size w w' := by
  obtain ⟨hs, hl⟩ := show_parts v hR
  have HS := Lib.hid hs
  have C := Lib.hid (fun W => rToText_right v W hR)
  have hf := faultText_len (vToText v).2
  have D := Lib.hid (fun W => rfaultText_any (vToText v).2 W)
  have T0 := Lib.hid (ValIn.start w v)
  generalize vShow v = r at *
  generalize pFaultText (vToText v).2 = t at *
  generalize (vToText v).2 = f at *
  generalize (vToText v).1 = s at *
  clear hs hR
  go_enter Tryd.func64, Tryd.ntmps64
  go_wp2_with fail
  refine (C.out _).mono ?_
  rintro x w1 ⟨rfl, hb⟩
  have T1 := Lib.hid (T0.out.next hb)
  clear hb T0 C
  go_wp2_with fail
  refine (D.out _).mono ?_
  rintro x w2 ⟨rfl, hb⟩
  have T2 := Lib.hid (T1.out.next hb)
  clear hb T1 D
  go_wp2_with fail
  go_ret
  exact ⟨by rw [HS.out]; rfl, T2.out.2.2.2.2.2.2.2⟩
end Go.Proofs.YtcgdeoldgnjdeaaDoor
