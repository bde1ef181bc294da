/-
  value.ToText, Show, ToNum, ToTruth.
-/
import Derived.Test.YtpdaloohgfnbhaaGreatDoorNum10
import Derived.Test.YtpdaloohgfnbhaaGreatDoorVal10
import Derived.Test.YtpdaloohgfnbhaaGreatDoorVal7
namespace Go.Proofs.YtpdaloohgfnbhaaGreatDoor
open Go.RowKit

def vToText (v : Val) : Bs × Int :=
  if v.kind = 1 then (nText v.mant v.exp, 0) else if v.kind = 2 then (v.text, 0) else if v.kind = 3 then (if v.truth then yesB else noB, 0) else if v.kind = 4 then ([], v.fault) else ([], 0)
set_option maxRecDepth 100000 in
set_option maxHeartbeats 3200000 in
theorem toText_any (v : Val) (w : World) (ht : PowTab w) (h1 : -9223372036854775808 ≤ v.mant) (h2 : v.mant ≤ 9223372036854775807) (hR : v.kind = 1 → pRight v.mant v.exp = true) :
    Calls Tryz.prog 63 #[valV v] w fun x w' => x = .returned (.tuple #[.string ⟨(vToText v).1.toArray⟩, .int .i64 (vToText v).2]) ∧ Below w.heap.size w w' := by
  have HN : Hid (vToText v = if v.kind = 1 then (nText v.mant v.exp, 0) else if v.kind = 2 then (v.text, 0) else if v.kind = 3 then (if v.truth then yesB else noB, 0) else if v.kind = 4 then ([], v.fault) else ([], 0)) := Lib.hid rfl
  generalize vToText v = r at *
  have HB : Hid (Below w.heap.size w (w.alloc (.cells (valC v) 35))) := Lib.hid ((Below.refl _ w).alloc (Nat.le_refl _) _)
  have HT : Hid (PowTab (w.alloc (.cells (valC v) 35))) := Lib.hid (ht.next ((Below.refl _ w).alloc (Nat.le_refl _) _))
  obtain ⟨k, m, x, t, tr, f⟩ := v
  dsimp only at HN h1 h2 hR
  clear ht
  by_cases k1 : k = 1
  · subst k1
    have hN : Hid (r = (nText m x, 0)) := Lib.hid (by rw [HN.out]; rfl)
    have C := Lib.hid (fun W h => nText_right m x W h h1 h2 (hR rfl))
    clear HN h1 h2 hR
    go_enter Tryz.func63, Tryz.ntmps63
    go_wp2_with fail
    refine (C.out _ HT.out).mono ?_
    rintro e w1 ⟨rfl, hb⟩
    have HB1 : Hid (Below w.heap.size w w1) := Lib.hid (HB.out.trans (hb.mono HB.out.size))
    clear hb HT
    go_wp2_with fail
    refine bodyPost_ret (v := .tuple #[.string ⟨(nText m x).toArray⟩, .int .i64 0]) (by simp [results, Tryz.results63, go_sem]) rfl ?_
    exact ⟨by rw [hN.out], HB1.out⟩
  have b1 : (k == 1) = false := by rw [beq_eq_false_iff_ne]; exact k1
  clear hR HT h1 h2
  by_cases k2 : k = 2
  · subst k2
    have hN : Hid (r = (t, 0)) := Lib.hid (by rw [HN.out]; rfl)
    clear HN k1
    go_enter Tryz.func63, Tryz.ntmps63
    go_wp2_with fail
    refine bodyPost_ret (v := .tuple #[.string ⟨t.toArray⟩, .int .i64 0]) (by simp [results, Tryz.results63, go_sem]) rfl ?_
    exact ⟨by rw [hN.out], HB.out⟩
  have b2 : (k == 2) = false := by rw [beq_eq_false_iff_ne]; exact k2
  by_cases k3 : k = 3
  · subst k3
    have hN : Hid (r = (if tr then yesB else noB, 0)) := Lib.hid (by rw [HN.out]; rfl)
    clear HN k1 k2
    cases tr
    · go_enter Tryz.func63, Tryz.ntmps63
      go_wp2_with fail
      refine bodyPost_ret (v := .tuple #[.string ⟨noB.toArray⟩, .int .i64 0]) (by simp [results, Tryz.results63, go_sem, noB]) rfl ?_
      exact ⟨by rw [hN.out]; rfl, HB.out⟩
    · go_enter Tryz.func63, Tryz.ntmps63
      go_wp2_with fail
      refine bodyPost_ret (v := .tuple #[.string ⟨yesB.toArray⟩, .int .i64 0]) (by simp [results, Tryz.results63, go_sem, yesB]) rfl ?_
      exact ⟨by rw [hN.out]; rfl, HB.out⟩
  have b3 : (k == 3) = false := by rw [beq_eq_false_iff_ne]; exact k3
  by_cases k4 : k = 4
  · subst k4
    have hN : Hid (r = ([], f)) := Lib.hid (by rw [HN.out]; rfl)
    clear HN k1 k2 k3
    go_enter Tryz.func63, Tryz.ntmps63
    go_wp2_with fail
    go_region
    all_goals go_wp2_with fail
    all_goals refine bodyPost_ret (v := .tuple #[.string ⟨#[]⟩, .int .i64 f]) (by simp [results, Tryz.results63, go_sem]) rfl ?_
    all_goals exact ⟨by rw [hN.out], HB.out.drew⟩
  have b4 : (k == 4) = false := by rw [beq_eq_false_iff_ne]; exact k4
  have hN : Hid (r = ([], 0)) := Lib.hid (by rw [HN.out, if_neg k1, if_neg k2, if_neg k3, if_neg k4])
  clear HN k1 k2 k3 k4
  go_enter Tryz.func63, Tryz.ntmps63
  go_wp2_with fail
  refine bodyPost_ret (v := .tuple #[.string ⟨#[]⟩, .int .i64 0]) (by simp [results, Tryz.results63, go_sem]) rfl ?_
  exact ⟨by rw [hN.out], HB.out⟩
/-- what Show tells -/
def vShow (v : Val) : Bs := if v.kind = 4 then pFaultText v.fault else (vToText v).1
/-- what ToNum tells: a number, and a fault -/
def vToNum (v : Val) : (Int × Int) × Int :=
  if v.kind = 1 then ((v.mant, v.exp), 0) else if v.kind = 2 then (match pParse v.text with | some q => (q, 0) | none => ((0, 0), 2)) else if v.kind = 3 then ((if v.truth then 1 else 0, 0), 0) else if v.kind = 4 then ((0, 0), v.fault) else ((0, 0), 0)
/-- the two cells in front, made by the call -/
theorem two_new (w : World) (v : Val) : Below w.heap.size w ((w.alloc (.cells (valC v) 35)).alloc (.cells #[.int .i64 0, .int .i64 0] 33)) :=
  ((Below.refl _ w).alloc (Nat.le_refl _) _).alloc (by simp) _
theorem put2_below {w w' : World} {B n : Nat} (h : Below B w w') (hn : B ≤ n) (a b : Value) : Below B w ((w'.setCell ⟨n, 0, none⟩ a).setCell ⟨n, 1, none⟩ b) :=
  (h.setCell (p := ⟨n, 0, none⟩) hn _).setCell (p := ⟨n, 1, none⟩) hn _
set_option maxRecDepth 100000 in
set_option maxHeartbeats 6400000 in
theorem toNum_any (v : Val) (w : World) (hl : v.text.length ≤ 1000000) :
    Calls Tryz.prog 66 #[valV v] w fun x w' => x = .returned (.tuple #[numV (vToNum v).1.1 (vToNum v).1.2, .int .i64 (vToNum v).2]) ∧ Below w.heap.size w w' := by
  have HN : Hid (vToNum v = ((if v.kind = 1 then ((v.mant, v.exp), 0) else if v.kind = 2 then (match pParse v.text with | some q => (q, 0) | none => ((0, 0), 2)) else if v.kind = 3 then ((if v.truth then 1 else 0, 0), 0) else if v.kind = 4 then ((0, 0), v.fault) else ((0, 0), 0)) : (Int × Int) × Int)) := Lib.hid rfl
  generalize vToNum v = r at *
  have HB : Hid (Below w.heap.size w ((w.alloc (.cells (valC v) 35)).alloc (.cells #[.int .i64 0, .int .i64 0] 33))) := Lib.hid (two_new w v)
  have HL : Hid (Lies ((w.alloc (.cells (valC v) 35)).alloc (.cells #[.int .i64 0, .int .i64 0] 33)) (w.heap.size + 1) 33 #[.int .i64 0, .int .i64 0]) := Lib.hid (by have := Lies.new (w.alloc (.cells (valC v) 35)) 33 #[.int .i64 0, .int .i64 0]; simpa using this)
  obtain ⟨k, m, x, t, tr, f⟩ := v
  dsimp only at HN hl
  by_cases k1 : k = 1
  · subst k1
    have hN : Hid (r = ((m, x), 0)) := Lib.hid (by rw [HN.out]; rfl)
    clear HN HL
    go_enter Tryz.func66, Tryz.ntmps66
    go_wp2_with fail
    refine bodyPost_ret (v := .tuple #[.agg #[.int .i64 m, .int .i64 x], .int .i64 0]) (by simp [results, Tryz.results66, go_sem]) rfl ?_
    exact ⟨by rw [hN.out], ((Below.refl _ w).alloc (Nat.le_refl _) _).alloc (by simp) _⟩
  have b1 : (k == 1) = false := by rw [beq_eq_false_iff_ne]; exact k1
  by_cases k2 : k = 2
  · subst k2
    have hN : Hid (r = match pParse t with | some q => (q, 0) | none => ((0, 0), 2)) := Lib.hid (by rw [HN.out]; rfl)
    clear HN k1
    go_enter Tryz.func66, Tryz.ntmps66
    go_wp2_with fail
    refine (parse_any t _ hl).mono ?_
    rintro e w1 ⟨rfl, hb1⟩
    have HL1 := Lib.hid (HL.out.next hb1)
    have HB1 : Hid (Below w.heap.size w w1) := Lib.hid (HB.out.trans (hb1.mono HB.out.size))
    clear hb1 HB HL
    cases hp : pParse t with
    | some q =>
      obtain ⟨mm, gg⟩ := q
      rw [hp] at hN
      unfold numOut
      have q0 := HL1.out.cell 0
      have q1 := HL1.out.cell 1
      have f0 := HL1.out.frozen 0
      have f1 := HL1.out.frozen 1
      have hlt := HL1.out.lt
      simp only [List.getElem?_toArray, List.getElem?_cons_zero, List.getElem?_cons_succ] at q0 q1
      clear hp
      go_wp2_with fail
      refine bodyPost_ret (v := .tuple #[.agg #[.int .i64 mm, .int .i64 gg], .int .i64 0]) (by simp [results, Tryz.results66, go_sem, q0, q1, hlt]) rfl ?_
      exact ⟨by rw [hN.out], (put2_below HB1.out (Nat.le_succ _) _ _).alloc (put2_below HB1.out (Nat.le_succ _) _ _).size _⟩
    | none =>
      rw [hp] at hN
      unfold numOut
      have q0 := HL1.out.cell 0
      have q1 := HL1.out.cell 1
      have f0 := HL1.out.frozen 0
      have f1 := HL1.out.frozen 1
      have hlt := HL1.out.lt
      simp only [List.getElem?_toArray, List.getElem?_cons_zero, List.getElem?_cons_succ] at q0 q1
      clear hp
      go_wp2_with fail
      refine bodyPost_ret (v := .tuple #[.agg #[.int .i64 0, .int .i64 0], .int .i64 2]) (by simp [results, Tryz.results66, go_sem, q0, q1, hlt]) rfl ?_
      exact ⟨by rw [hN.out], (put2_below HB1.out (Nat.le_succ _) _ _).alloc (put2_below HB1.out (Nat.le_succ _) _ _).size _⟩
  have b2 : (k == 2) = false := by rw [beq_eq_false_iff_ne]; exact k2
  clear HL
  by_cases k3 : k = 3
  · subst k3
    have hN : Hid (r = ((if tr then 1 else 0, 0), 0)) := Lib.hid (by rw [HN.out]; rfl)
    clear HN k1 k2
    cases tr
    · go_enter Tryz.func66, Tryz.ntmps66
      go_wp2_with fail
      refine bodyPost_ret (v := .tuple #[.agg #[.int .i64 0, .int .i64 0], .int .i64 0]) (by simp [results, Tryz.results66, go_sem]) rfl ?_
      exact ⟨by rw [hN.out]; rfl, ((Below.refl _ w).alloc (Nat.le_refl _) _).alloc (by simp) _⟩
    · go_enter Tryz.func66, Tryz.ntmps66
      go_wp2_with fail
      refine bodyPost_ret (v := .tuple #[.agg #[.int .i64 1, .int .i64 0], .int .i64 0]) (by simp [results, Tryz.results66, go_sem]) rfl ?_
      exact ⟨by rw [hN.out]; rfl, ((Below.refl _ w).alloc (Nat.le_refl _) _).alloc (by simp) _⟩
  have b3 : (k == 3) = false := by rw [beq_eq_false_iff_ne]; exact k3
  by_cases k4 : k = 4
  · subst k4
    have hN : Hid (r = ((0, 0), f)) := Lib.hid (by rw [HN.out]; rfl)
    clear HN k1 k2 k3
    go_enter Tryz.func66, Tryz.ntmps66
    go_wp2_with fail
    go_region
    all_goals go_wp2_with fail
    all_goals refine bodyPost_ret (v := .tuple #[.agg #[.int .i64 0, .int .i64 0], .int .i64 f]) (by simp [results, Tryz.results66, go_sem]) rfl ?_
    all_goals exact ⟨by rw [hN.out], by first | exact (((Below.refl _ w).alloc (Nat.le_refl _) _).alloc (by simp) _).drew | exact ((Below.refl _ w).drew.alloc (Nat.le_refl _) _).alloc (by simp) _⟩
  have b4 : (k == 4) = false := by rw [beq_eq_false_iff_ne]; exact k4
  have hN : Hid (r = ((0, 0), 0)) := Lib.hid (by rw [HN.out, if_neg k1, if_neg k2, if_neg k3, if_neg k4])
  clear HN k1 k2 k3 k4
  go_enter Tryz.func66, Tryz.ntmps66
  go_wp2_with fail
  refine bodyPost_ret (v := .tuple #[.agg #[.int .i64 0, .int .i64 0], .int .i64 0]) (by simp [results, Tryz.results66, go_sem]) rfl ?_
  exact ⟨by rw [hN.out], ((Below.refl _ w).alloc (Nat.le_refl _) _).alloc (by simp) _⟩
/-- what ToTruth tells: a truth, and a fault -/
def vToTruth (v : Val) : Bool × Int :=
  if v.kind = 1 then (v.mant != 0, 0) else if v.kind = 2 then (if pFold v.text == yesB then (true, 0) else if pFold v.text == noB then (false, 0) else (false, 2)) else if v.kind = 3 then (v.truth, 0) else if v.kind = 4 then (false, v.fault) else (false, 0)
set_option maxRecDepth 100000 in
set_option maxHeartbeats 6400000 in
theorem toTruth_any (v : Val) (w : World) (hl : v.text.length ≤ maxLen) :
    Calls Tryz.prog 80 #[valV v] w fun x w' => x = .returned (.tuple #[.bool (vToTruth v).1, .int .i64 (vToTruth v).2]) ∧ Below w.heap.size w w' := by
  have HN : Hid (vToTruth v = ((if v.kind = 1 then (v.mant != 0, 0) else if v.kind = 2 then (if pFold v.text == yesB then (true, 0) else if pFold v.text == noB then (false, 0) else (false, 2)) else if v.kind = 3 then (v.truth, 0) else if v.kind = 4 then (false, v.fault) else (false, 0)) : Bool × Int)) := Lib.hid rfl
  generalize vToTruth v = r at *
  have HB : Hid (Below w.heap.size w (w.alloc (.cells (valC v) 35))) := Lib.hid ((Below.refl _ w).alloc (Nat.le_refl _) _)
  obtain ⟨k, m, x, t, tr, f⟩ := v
  dsimp only at HN hl
  by_cases k1 : k = 1
  · subst k1
    have hN : Hid (r = (m != 0, 0)) := Lib.hid (by rw [HN.out]; rfl)
    clear HN
    go_enter Tryz.func80, Tryz.ntmps80
    go_wp2_with fail
    refine bodyPost_ret (v := .tuple #[.bool (m != 0), .int .i64 0]) (by simp [results, Tryz.results80, go_sem]) rfl ?_
    exact ⟨by rw [hN.out], HB.out⟩
  have b1 : (k == 1) = false := by rw [beq_eq_false_iff_ne]; exact k1
  by_cases k2 : k = 2
  · subst k2
    have hN : Hid (r = if pFold t == yesB then (true, 0) else if pFold t == noB then (false, 0) else (false, 2)) := Lib.hid (by rw [HN.out]; rfl)
    clear HN k1
    go_enter Tryz.func80, Tryz.ntmps80
    go_wp2_with fail
    refine (fold_any t _ hl).mono ?_
    rintro e w1 ⟨rfl, hb1⟩
    have HB1 : Hid (Below w.heap.size w w1) := Lib.hid (HB.out.trans (hb1.mono HB.out.size))
    clear hb1 HB
    generalize pFold t = u at *
    cases hy : (u == yesB)
    · rw [hy, if_neg (by decide)] at hN
      have ey : (u == [84, 82, 85, 69]) = false := hy
      cases hno : (u == noB)
      · rw [hno, if_neg (by decide)] at hN
        have en : (u == [70, 65, 76, 83, 69]) = false := hno
        clear hy hno
        go_wp2_with fail
        refine bodyPost_ret (v := .tuple #[.bool false, .int .i64 2]) (by simp [results, Tryz.results80, go_sem]) rfl ?_
        exact ⟨by rw [hN.out], HB1.out⟩
      · rw [hno, if_pos rfl] at hN
        have en : (u == [70, 65, 76, 83, 69]) = true := hno
        clear hy hno
        go_wp2_with fail
        refine bodyPost_ret (v := .tuple #[.bool false, .int .i64 0]) (by simp [results, Tryz.results80, go_sem]) rfl ?_
        exact ⟨by rw [hN.out], HB1.out⟩
    · rw [hy, if_pos rfl] at hN
      have ey : (u == [84, 82, 85, 69]) = true := hy
      clear hy
      go_wp2_with fail
      refine bodyPost_ret (v := .tuple #[.bool true, .int .i64 0]) (by simp [results, Tryz.results80, go_sem]) rfl ?_
      exact ⟨by rw [hN.out], HB1.out⟩
  have b2 : (k == 2) = false := by rw [beq_eq_false_iff_ne]; exact k2
  by_cases k3 : k = 3
  · subst k3
    have hN : Hid (r = (tr, 0)) := Lib.hid (by rw [HN.out]; rfl)
    clear HN k1 k2
    go_enter Tryz.func80, Tryz.ntmps80
    go_wp2_with fail
    refine bodyPost_ret (v := .tuple #[.bool tr, .int .i64 0]) (by simp [results, Tryz.results80, go_sem]) rfl ?_
    exact ⟨by rw [hN.out], HB.out⟩
  have b3 : (k == 3) = false := by rw [beq_eq_false_iff_ne]; exact k3
  by_cases k4 : k = 4
  · subst k4
    have hN : Hid (r = (false, f)) := Lib.hid (by rw [HN.out]; rfl)
    clear HN k1 k2 k3
    go_enter Tryz.func80, Tryz.ntmps80
    go_wp2_with fail
    go_region
    all_goals go_wp2_with fail
    all_goals refine bodyPost_ret (v := .tuple #[.bool false, .int .i64 f]) (by simp [results, Tryz.results80, go_sem]) rfl ?_
    all_goals exact ⟨by rw [hN.out], HB.out.drew⟩
  have b4 : (k == 4) = false := by rw [beq_eq_false_iff_ne]; exact k4
  have hN : Hid (r = (false, 0)) := Lib.hid (by rw [HN.out, if_neg k1, if_neg k2, if_neg k3, if_neg k4])
  clear HN k1 k2 k3 k4
  go_enter Tryz.func80, Tryz.ntmps80
  go_wp2_with fail
  refine bodyPost_ret (v := .tuple #[.bool false, .int .i64 0]) (by simp [results, Tryz.results80, go_sem]) rfl ?_
  exact ⟨by rw [hN.out], HB.out⟩
end Go.Proofs.YtpdaloohgfnbhaaGreatDoor
