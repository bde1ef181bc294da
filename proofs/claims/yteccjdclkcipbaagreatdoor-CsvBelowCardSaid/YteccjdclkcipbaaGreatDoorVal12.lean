/-
  value.ToText, Show, ToNum, ToTruth.
-/
import Derived.Test.YteccjdclkcipbaaGreatDoorNum10
import Derived.Test.YteccjdclkcipbaaGreatDoorVal10
import Derived.Test.YteccjdclkcipbaaGreatDoorVal7
namespace Go.Proofs.YteccjdclkcipbaaGreatDoor
open Go.RowKit

def vToText (v : Val) : Bs × Int :=
  if v.kind = 1 then (nText v.mant v.exp, 0) else if v.kind = 2 then (v.text, 0) else if v.kind = 3 then (if v.truth then yesB else noB, 0) else if v.kind = 4 then ([], v.fault) else ([], 0)
set_option maxRecDepth 100000 in
set_option maxHeartbeats 3200000 in
theorem toText_any (v : Val) (w : World) (ht : PowTab w) (h1 : -9223372036854775808 ≤ v.mant) (h2 : v.mant ≤ 9223372036854775807) (hR : v.kind = 1 → pRight v.mant v.exp = true) :
    Calls Tryz.prog 52 #[valV v] w fun x w' => x = .returned (.tuple #[.string ⟨(vToText v).1.toArray⟩, .int .i64 (vToText v).2]) ∧ Below w.heap.size w w' := by
  have HN : Hid (vToText v = if v.kind = 1 then (nText v.mant v.exp, 0) else if v.kind = 2 then (v.text, 0) else if v.kind = 3 then (if v.truth then yesB else noB, 0) else if v.kind = 4 then ([], v.fault) else ([], 0)) := Lib.hid rfl
  generalize vToText v = r at *
  have HB : Hid (Below w.heap.size w (w.alloc (.cells (valC v) 38))) := Lib.hid ((Below.refl _ w).alloc (Nat.le_refl _) _)
  have HT : Hid (PowTab (w.alloc (.cells (valC v) 38))) := Lib.hid (ht.next ((Below.refl _ w).alloc (Nat.le_refl _) _))
  obtain ⟨k, m, x, t, tr, f⟩ := v
  dsimp only at HN h1 h2 hR
  clear ht
  by_cases k1 : k = 1
  · subst k1
    have hN : Hid (r = (nText m x, 0)) := Lib.hid (by rw [HN.out]; rfl)
    have C := Lib.hid (fun W h => nText_right m x W h h1 h2 (hR rfl))
    clear HN h1 h2 hR
    go_enter Tryz.func52, Tryz.ntmps52
    go_wp2_with fail
    refine (C.out _ HT.out).mono ?_
    rintro e w1 ⟨rfl, hb⟩
    have HB1 : Hid (Below w.heap.size w w1) := Lib.hid (HB.out.trans (hb.mono HB.out.size))
    clear hb HT
    go_wp2_with fail
    refine bodyPost_ret (v := .tuple #[.string ⟨(nText m x).toArray⟩, .int .i64 0]) (by simp [results, Tryz.results52, go_sem]) rfl ?_
    exact ⟨by rw [hN.out], HB1.out⟩
  have b1 : (k == 1) = false := by rw [beq_eq_false_iff_ne]; exact k1
  clear hR HT h1 h2
  by_cases k2 : k = 2
  · subst k2
    have hN : Hid (r = (t, 0)) := Lib.hid (by rw [HN.out]; rfl)
    clear HN k1
    go_enter Tryz.func52, Tryz.ntmps52
    go_wp2_with fail
    refine bodyPost_ret (v := .tuple #[.string ⟨t.toArray⟩, .int .i64 0]) (by simp [results, Tryz.results52, go_sem]) rfl ?_
    exact ⟨by rw [hN.out], HB.out⟩
  have b2 : (k == 2) = false := by rw [beq_eq_false_iff_ne]; exact k2
  by_cases k3 : k = 3
  · subst k3
    have hN : Hid (r = (if tr then yesB else noB, 0)) := Lib.hid (by rw [HN.out]; rfl)
    clear HN k1 k2
    cases tr
    · go_enter Tryz.func52, Tryz.ntmps52
      go_wp2_with fail
      refine bodyPost_ret (v := .tuple #[.string ⟨noB.toArray⟩, .int .i64 0]) (by simp [results, Tryz.results52, go_sem, noB]) rfl ?_
      exact ⟨by rw [hN.out]; rfl, HB.out⟩
    · go_enter Tryz.func52, Tryz.ntmps52
      go_wp2_with fail
      refine bodyPost_ret (v := .tuple #[.string ⟨yesB.toArray⟩, .int .i64 0]) (by simp [results, Tryz.results52, go_sem, yesB]) rfl ?_
      exact ⟨by rw [hN.out]; rfl, HB.out⟩
  have b3 : (k == 3) = false := by rw [beq_eq_false_iff_ne]; exact k3
  by_cases k4 : k = 4
  · subst k4
    have hN : Hid (r = ([], f)) := Lib.hid (by rw [HN.out]; rfl)
    clear HN k1 k2 k3
    go_enter Tryz.func52, Tryz.ntmps52
    go_wp2_with fail
    go_region
    all_goals go_wp2_with fail
    all_goals refine bodyPost_ret (v := .tuple #[.string ⟨#[]⟩, .int .i64 f]) (by simp [results, Tryz.results52, go_sem]) rfl ?_
    all_goals exact ⟨by rw [hN.out], HB.out.drew⟩
  have b4 : (k == 4) = false := by rw [beq_eq_false_iff_ne]; exact k4
  have hN : Hid (r = ([], 0)) := Lib.hid (by rw [HN.out, if_neg k1, if_neg k2, if_neg k3, if_neg k4])
  clear HN k1 k2 k3 k4
  go_enter Tryz.func52, Tryz.ntmps52
  go_wp2_with fail
  refine bodyPost_ret (v := .tuple #[.string ⟨#[]⟩, .int .i64 0]) (by simp [results, Tryz.results52, go_sem]) rfl ?_
  exact ⟨by rw [hN.out], HB.out⟩
/-- what Show tells -/
def vShow (v : Val) : Bs := if v.kind = 4 then pFaultText v.fault else (vToText v).1
set_option maxRecDepth 100000 in
set_option maxHeartbeats 3200000 in
theorem show_any (v : Val) (w : World) (ht : Tab w) (hp : PowTab w) (h1 : -9223372036854775808 ≤ v.mant) (h2 : v.mant ≤ 9223372036854775807) (hR : v.kind = 1 → pRight v.mant v.exp = true) :
    Calls Tryz.prog 32 #[valV v] w fun x w' => x = .returned (.string ⟨(vShow v).toArray⟩) ∧ Below w.heap.size w w' := by
  have HN : Hid (vShow v = if v.kind = 4 then pFaultText v.fault else (vToText v).1) := Lib.hid rfl
  have C := Lib.hid (fun W h => toText_any v W h h1 h2 hR)
  have HB : Hid (Below w.heap.size w (w.alloc (.cells (valC v) 38))) := Lib.hid ((Below.refl _ w).alloc (Nat.le_refl _) _)
  have HT : Hid (PowTab (w.alloc (.cells (valC v) 38))) := Lib.hid (hp.next ((Below.refl _ w).alloc (Nat.le_refl _) _))
  have HF : Hid (Tab (w.alloc (.cells (valC v) 38))) := Lib.hid (ht.alloc _)
  generalize vShow v = r at *
  generalize (vToText v).2 = q at *
  generalize (vToText v).1 = s at *
  clear hR h1 h2 ht hp
  obtain ⟨k, m, x, t, tr, f⟩ := v
  dsimp only at HN
  by_cases k4 : k = 4
  · subst k4
    have hN : Hid (r = pFaultText f) := Lib.hid (by rw [HN.out]; rfl)
    clear HN C HT
    go_enter Tryz.func32, Tryz.ntmps32
    go_wp2_with fail
    refine (faultText_any f _ HF.out).mono ?_
    rintro e w1 ⟨rfl, rfl⟩
    go_wp2_with fail
    go_ret
    exact ⟨by rw [hN.out]; rfl, HB.out⟩
  · have hN : Hid (r = s) := Lib.hid (by rw [HN.out, if_neg k4])
    have b4 : (k == 4) = false := by rw [beq_eq_false_iff_ne]; exact k4
    clear HN k4 HF
    go_enter Tryz.func32, Tryz.ntmps32
    go_wp2_with fail
    refine (C.out _ HT.out).mono ?_
    rintro e w1 ⟨rfl, hb⟩
    have HB1 : Hid (Below w.heap.size w w1) := Lib.hid (HB.out.trans (hb.mono HB.out.size))
    clear hb HT
    go_wp2_with fail
    go_ret
    exact ⟨by rw [hN.out]; rfl, HB1.out⟩
/-- what ToNum tells: a number, and a fault -/
def vToNum (v : Val) : (Int × Int) × Int :=
  if v.kind = 1 then ((v.mant, v.exp), 0) else if v.kind = 2 then (match pParse v.text with | some q => (q, 0) | none => ((0, 0), 2)) else if v.kind = 3 then ((if v.truth then 1 else 0, 0), 0) else if v.kind = 4 then ((0, 0), v.fault) else ((0, 0), 0)
/-- the two cells in front, made by the call -/
theorem two_new (w : World) (v : Val) : Below w.heap.size w ((w.alloc (.cells (valC v) 38)).alloc (.cells #[.int .i64 0, .int .i64 0] 36)) :=
  ((Below.refl _ w).alloc (Nat.le_refl _) _).alloc (by simp) _
theorem put2_below {w w' : World} {B n : Nat} (h : Below B w w') (hn : B ≤ n) (a b : Value) : Below B w ((w'.setCell ⟨n, 0, none⟩ a).setCell ⟨n, 1, none⟩ b) :=
  (h.setCell (p := ⟨n, 0, none⟩) hn _).setCell (p := ⟨n, 1, none⟩) hn _
/-- what ToTruth tells: a truth, and a fault -/
def vToTruth (v : Val) : Bool × Int :=
  if v.kind = 1 then (v.mant != 0, 0) else if v.kind = 2 then (if pFold v.text == yesB then (true, 0) else if pFold v.text == noB then (false, 0) else (false, 2)) else if v.kind = 3 then (v.truth, 0) else if v.kind = 4 then (false, v.fault) else (false, 0)
end Go.Proofs.YteccjdclkcipbaaGreatDoor
