/-
  counterpanelaw31.MaskParses: the walk.
-/
import Derived.Test.YteccjdclkcipbaaDoorRefM3
import Derived.Test.YteccjdclkcipbaaDoorMask10
import Derived.Test.YteccjdclkcipbaaDoorPlMs
namespace Go.Proofs.YteccjdclkcipbaaDoor
open Go.RowKit

theorem fmtString_any (tx : Bs) (v : Value) (w : World) :
    Calls Tryd.prog 34 #[.agg #[.string ⟨tx.toArray⟩, v]] w fun e w' => e = .returned (.string ⟨tx.toArray⟩) ∧ Below w.heap.size w w' := by
  go_enter Tryd.func34, Tryd.ntmps34
  go_wp2_with fail
  go_ret
  exact ⟨rfl, (Below.refl _ _).alloc (Nat.le_refl _) _⟩
set_option maxRecDepth 100000 in
set_option maxHeartbeats 3200000 in
theorem maskParses_any (s : Bs) (w : World) (hs : s.length ≤ maxLen) (hT : Tab w) (hP : PowTab w) (hM : MaxVar w) :
    Calls Tryd.prog 7 #[.string ⟨s.toArray⟩] w fun e w' => e = .returned (.bool true) ∧ Below w.heap.size w w' := by
  have CA := Lib.hid (awake31_any w hT hP hM)
  unfold maxLen at hs
  clear hT hP hM
  by_cases h400 : 400 < s.length
  · go_enter Tryd.func7, Tryd.ntmps7
    go_wp2_with fail
    refine CA.out.mono ?_
    rintro e w1 ⟨rfl, hb⟩
    have HB := Lib.hid hb
    clear hb
    go_wp2_with fail
    go_ret
    exact ⟨rfl, HB.out⟩
  have CP := Lib.hid (fun W => parse_mask s W (by omega))
  have CR := Lib.hid (fun W => parse31_any s W (by omega))
  have CS := Lib.hid (fun tx v W => fmtString_any tx v W)
  cases hR : mParse s with
  | inl L =>
    have hL := (parse_fine s L hR).1
    rw [hR] at CP CR
    clear hR
    go_enter Tryd.func7, Tryd.ntmps7
    go_wp2_with fail
    refine CA.out.mono ?_
    rintro e w1 ⟨rfl, hb⟩
    have HB := Lib.hid hb
    clear hb CA
    go_wp2_with fail
    refine (CP.out _).mono ?_
    rintro e w2 ⟨v, rfl, hf, hb⟩
    obtain ⟨g1, c1, rfl, -⟩ := hf.form hL
    have hbn : Below w2.heap.size w2 (w2.alloc (.cells #[.string ⟨s.toArray⟩, .slice (some ⟨g1, 0, none⟩) L.length c1] 43)) := (Below.refl _ _).alloc (Nat.le_refl _) _
    have HB2 := Lib.hid (HB.out.trans ((hb.trans (hbn.mono hb.size)).mono HB.out.size))
    have HL2 : Hid (Lies (w2.alloc (.cells #[.string ⟨s.toArray⟩, .slice (some ⟨g1, 0, none⟩) L.length c1] 43)) w2.heap.size 43 #[.string ⟨s.toArray⟩, .slice (some ⟨g1, 0, none⟩) L.length c1]) := Lib.hid (Lies.new w2 _ _)
    clear hb hbn hf HB CP hL
    generalize L.length = n at *
    go_wp2_with fail
    refine (CR.out _).mono ?_
    rintro e w3 ⟨v, rfl, hb⟩
    have HB3 := Lib.hid (HB2.out.trans (hb.mono HB2.out.size))
    have HL3 := Lib.hid (Lies.below HL2.out hb)
    have x0 := HL3.out.cell 0
    have x1 := HL3.out.cell 1
    simp only [List.getElem?_toArray, List.getElem?_cons_zero, List.getElem?_cons_succ] at x0 x1
    clear hb HB2 HL2 CR
    unfold placeOf errOf
    dsimp only
    go_wp2_with fail
    refine (CS.out _ _ _).mono ?_
    rintro e w4 ⟨rfl, hb⟩
    have HB4 := Lib.hid (HB3.out.trans (hb.mono HB3.out.size))
    clear hb
    go_wp2_with fail
    go_ret
    exact ⟨rfl, HB4.out⟩
  | inr p =>
    obtain ⟨a, f⟩ := p
    have hf := parse_errs s (a, f) hR
    rw [hR] at CP CR
    clear hR
    dsimp only at hf
    rcases hf with rfl | rfl | rfl | rfl
    all_goals
      go_enter Tryd.func7, Tryd.ntmps7
      go_wp2_with fail
      refine CA.out.mono ?_
      rintro e w1 ⟨rfl, hb⟩
      have HB := Lib.hid hb
      clear hb CA
      go_wp2_with fail
      refine (CP.out _).mono ?_
      rintro e w2 ⟨rfl, hb⟩
      have hbn : Below w2.heap.size w2 (w2.alloc (.cells #[.string ⟨#[]⟩, .slice none 0 0] 43)) := (Below.refl _ _).alloc (Nat.le_refl _) _
      have HB2 := Lib.hid (HB.out.trans ((hb.trans (hbn.mono hb.size)).mono HB.out.size))
      have HL2 : Hid (Lies (w2.alloc (.cells #[.string ⟨#[]⟩, .slice none 0 0] 43)) w2.heap.size 43 #[.string ⟨#[]⟩, .slice none 0 0]) := Lib.hid (Lies.new w2 _ _)
      clear hb hbn HB CP
      go_wp2_with fail
      refine (CR.out _).mono ?_
      rintro e w3 ⟨v, rfl, hb⟩
      have HB3 := Lib.hid (HB2.out.trans (hb.mono HB2.out.size))
      have HL3 := Lib.hid (Lies.below HL2.out hb)
      have x0 := HL3.out.cell 0
      have x1 := HL3.out.cell 1
      simp only [List.getElem?_toArray, List.getElem?_cons_zero, List.getElem?_cons_succ] at x0 x1
      clear hb HB2 HL2 CR
      unfold placeOf errOf
      dsimp only
      go_wp2_with fail
      refine (CS.out [] _ _).mono ?_
      rintro e w4 ⟨rfl, hb⟩
      have HB4 := Lib.hid (HB3.out.trans (hb.mono HB3.out.size))
      clear hb
      go_wp2_with fail
      go_ret
      exact ⟨rfl, HB4.out⟩
end Go.Proofs.YteccjdclkcipbaaDoor
