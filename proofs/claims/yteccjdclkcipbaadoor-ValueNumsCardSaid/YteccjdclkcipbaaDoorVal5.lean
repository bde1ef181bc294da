/-
  value.Compare: what it returns.
-/
import Derived.Test.YteccjdclkcipbaaDoorVal4
import Derived.Test.YteccjdclkcipbaaDoorShelf
namespace Go.Proofs.YteccjdclkcipbaaDoor
open Go.RowKit

def cmpB (x y : Bs) : Int := Lib.compareBytes x y
/-- two values of one kind -/
def pCmpKind (a b : Val) : Int :=
  if a.kind = 1 then pCmp a.mant a.exp b.mant b.exp else if a.kind = 2 then cmpB (pFold a.text) (pFold b.text) else if a.kind = 3 then pTruthOrder a.truth b.truth
  else if a.kind = 4 then cmpN a.fault b.fault else 0
def pCmp2 (a b : Val) : Int := if a.kind ≠ b.kind then (if a.kind < b.kind then -1 else 1) else pCmpKind a b
def pCompare (a b : Val) : Int := pCmp2 (pBeside a b) (pBeside b a)
/-- a value that Compare can look at -/
structure Fit (v : Val) : Prop where
  m1 : -9223372036854775808 ≤ v.mant
  m2 : v.mant ≤ 9223372036854775807
  num : v.kind = 1 → pRight v.mant v.exp = true
  len : v.text.length ≤ maxLen
theorem Fit.beside {v u : Val} (h : Fit v) : Fit (pBeside v u) := by
  unfold pBeside
  split
  · exact h
  · split
    · exact ⟨by show (-9223372036854775808 : Int) ≤ 0; decide, by show (0 : Int) ≤ 9223372036854775807; decide, fun _ => (by decide : pRight 0 0 = true), Nat.zero_le _⟩
    · exact h
/-- two texts in two boxes -/
def TwoText (w : World) (t1 t2 : Bs) (w' : World) : Prop :=
  w.heap.size + 1 < w'.heap.size ∧ w'.cell? ⟨w.heap.size, 3, none⟩ = some (.string ⟨t1.toArray⟩) ∧ w'.cell? ⟨w.heap.size + 1, 3, none⟩ = some (.string ⟨t2.toArray⟩) ∧ Below w.heap.size w w'
theorem TwoText.next {w w' w'' : World} {t1 t2 : Bs} (h : TwoText w t1 t2 w') (hb : Below w'.heap.size w' w'') : TwoText w t1 t2 w'' := by
  obtain ⟨h1, h2, h3, h6⟩ := h
  have hs := hb.size
  exact ⟨by omega, (hb.cell (p := ⟨_, _, none⟩) (by show w.heap.size < _; omega)).trans h2, (hb.cell (p := ⟨_, _, none⟩) (by show w.heap.size + 1 < _; omega)).trans h3, h6.trans (hb.mono h6.size)⟩
theorem TwoText.drew {w w' : World} {t1 t2 : Bs} (h : TwoText w t1 t2 w') : TwoText w t1 t2 w'.drew := ⟨h.1, h.2.1, h.2.2.1, h.2.2.2.drew⟩
set_option maxRecDepth 100000 in
set_option maxHeartbeats 4000000 in
theorem compare_any (a b : Val) (w : World) (fa : Fit a) (fb : Fit b) :
    Calls Tryd.prog 18 #[valV a, valV b] w fun e w' => e = .returned (.int .i64 (pCompare a b)) ∧ Below w.heap.size w w' := by
  have T0 := Lib.hid (TwoVal.start w a b)
  have Ha := Lib.hid (fun W => beside_any a b W)
  have Hb := Lib.hid (fun W => beside_any b a W)
  have hN : pCompare a b = pCmp2 (pBeside a b) (pBeside b a) := rfl
  have HN := Lib.hid hN
  have F1 := Lib.hid (fa.beside (u := b))
  have F2 := Lib.hid (fb.beside (u := a))
  clear hN fa fb
  generalize pCompare a b = r at *
  generalize pBeside a b = r1 at *
  generalize pBeside b a = r2 at *
  obtain ⟨k, m, x, t, tr, f⟩ := a
  obtain ⟨k2, m2, x2, t2, tr2, f2⟩ := b
  obtain ⟨rk, rm, rx, rt, rtr, rf⟩ := r1
  obtain ⟨sk, sm, sx, st, str, sf⟩ := r2
  go_enter Tryd.func18, Tryd.ntmps18
  go_upto_region 1 with fail
  go_cut [] (fun wx => TwoVal w ⟨rk, rm, rx, rt, rtr, rf⟩ ⟨sk, sm, sx, st, str, sf⟩ wx)
  case first =>
    clear HN F1 F2
    have T1 := T0.out.drew
    go_region_law (first
      | (have _ := Ha; go_simp; go_at_call 47; refine (Ha.out _).mono ?_; rintro e w1 ⟨rfl, hb⟩; have T2 := TwoVal.next T1 hb; clear hb Ha T1; obtain ⟨g0, ⟨q0, q1, q2, q3, q4, q5⟩, ⟨y0, y1, y2, y3, y4, y5⟩, ⟨v0, v1, v2, v3, v4, v5⟩, ⟨z0, z1, z2, z3, z4, z5⟩, _⟩ := id T2)
      | (have _ := T2; go_simp; go_at_call 47; refine (Hb.out _).mono ?_; rintro e w2 ⟨rfl, hb⟩; have T3 := TwoVal.next T2 hb; clear hb; obtain ⟨g0, ⟨q0, q1, q2, q3, q4, q5⟩, ⟨y0, y1, y2, y3, y4, y5⟩, ⟨v0, v1, v2, v3, v4, v5⟩, ⟨z0, z1, z2, z3, z4, z5⟩, _⟩ := id T3))
    all_goals try (go_wp2_with fail)
    all_goals go_meet
    all_goals exact T3.stored ⟨rk, rm, rx, rt, rtr, rf⟩ ⟨sk, sm, sx, st, str, sf⟩
  case rest =>
    clear T0 Ha Hb
    have T1 := Lib.hid hcut
    have HB := Lib.hid hcut.bel
    obtain ⟨g0, ⟨q0, q1, q2, q3, q4, q5⟩, -, ⟨v0, v1, v2, v3, v4, v5⟩, -, -⟩ := hcut
    dsimp only at q0 q1 q2 q3 q4 q5 v0 v1 v2 v3 v4 v5
    by_cases hk : rk = sk
    · subst hk
      have hN2 : Hid (r = pCmpKind ⟨rk, rm, rx, rt, rtr, rf⟩ ⟨rk, sm, sx, st, str, sf⟩) := Lib.hid (by rw [HN.out]; exact if_neg (fun h => h rfl))
      clear HN
      by_cases h1 : rk = 1
      · subst h1
        have hN3 : Hid (r = pCmp rm rx sm sx) := Lib.hid (by rw [hN2.out]; rfl)
        clear hN2
        go_wp2_with fail
        refine (cmp_right _ _ _ _ _ F1.out.m1 F1.out.m2 F2.out.m1 F2.out.m2 (F1.out.num rfl) (F2.out.num rfl)).mono ?_
        rintro e w1 ⟨rfl, hb⟩
        go_wp2_with fail
        go_ret
        exact ⟨ret_int (by rw [hN3.out]), HB.out.trans (hb.mono HB.out.size)⟩
      have b1 : (rk == 1) = false := by rw [beq_eq_false_iff_ne]; exact h1
      by_cases h2 : rk = 2
      · subst h2
        have hN3 : Hid (r = cmpB (pFold rt) (pFold st)) := Lib.hid (by rw [hN2.out]; rfl)
        have T2 : Hid (TwoText w rt st wc) := Lib.hid ⟨g0, q3, v3, HB.out⟩
        have hl1 := Lib.hid F1.out.len
        have hl2 := Lib.hid F2.out.len
        clear hN2 F1 F2 T1
        have c1 := Lib.hid (fun W => fold_any rt W hl1.out)
        have c2 := Lib.hid (fun W => fold_any st W hl2.out)
        have c3 := Lib.hid (fun W => Tryd.strings_Compare ⟨(pFold rt).toArray⟩ ⟨(pFold st).toArray⟩ W)
        generalize pFold rt = y1 at *
        generalize pFold st = y2 at *
        go_wp2_with fail
        go_region_held3 (fun w' => w.heap.size + 1 < w'.heap.size ∧ w'.cell? ⟨w.heap.size, 3, none⟩ = some (.string ⟨rt.toArray⟩) ∧ w'.cell? ⟨w.heap.size + 1, 3, none⟩ = some (.string ⟨st.toArray⟩) ∧ Below w.heap.size w w')
          (first | exact T2.out | exact T2.out.drew | exact (TwoText.next T2.out.drew hb) | (go_split_ands; exact (TwoText.next (w := w) ⟨by assumption, by assumption, by assumption, by assumption⟩ hb)))
          (first
            | (go_at_call 48; refine (c3.out _).mono ?_; rintro e wx ⟨rfl, rfl⟩; have hb := Below.refl wx.heap.size wx)
            | (have _ := c1; go_at_call 46; refine (c1.out _).mono ?_; rintro e wx ⟨rfl, hb⟩; clear c1)
            | (go_at_call 46; refine (c2.out _).mono ?_; rintro e wx ⟨rfl, hb⟩))
        all_goals go_wp2_with fail
        all_goals go_ret
        all_goals refine ⟨ret_int (by rw [hN3.out]; rfl), ?_⟩
        all_goals first | assumption | (go_split_ands; assumption)
      have b2 : (rk == 2) = false := by rw [beq_eq_false_iff_ne]; exact h2
      by_cases h3 : rk = 3
      · subst h3
        have hN3 : Hid (r = pTruthOrder rtr str) := Lib.hid (by rw [hN2.out]; rfl)
        clear hN2
        go_wp2_with fail
        refine (truthOrder_any _ _ _).mono ?_
        rintro e w1 ⟨rfl, rfl⟩
        go_wp2_with fail
        go_ret
        exact ⟨ret_int (by rw [hN3.out]), HB.out⟩
      have b3 : (rk == 3) = false := by rw [beq_eq_false_iff_ne]; exact h3
      by_cases h4 : rk = 4
      · subst h4
        have hN3 : Hid (r = cmpN rf sf) := Lib.hid (by rw [hN2.out]; rfl)
        clear hN2
        by_cases hl : rf < sf
        · have hc : Hid (r = -1) := Lib.hid (by rw [hN3.out]; exact if_pos hl)
          go_wp2_with fail
          go_ret
          exact ⟨ret_int (by rw [hc.out]), HB.out⟩
        · by_cases hg : sf < rf
          · have hc : Hid (r = 1) := Lib.hid (by rw [hN3.out]; unfold cmpN; rw [if_neg hl, if_pos hg])
            go_wp2_with fail
            go_ret
            exact ⟨ret_int (by rw [hc.out]), HB.out⟩
          · have hc : Hid (r = 0) := Lib.hid (by rw [hN3.out]; unfold cmpN; rw [if_neg hl, if_neg hg])
            go_wp2_with fail
            go_ret
            exact ⟨ret_int (by rw [hc.out]), HB.out⟩
      have b4 : (rk == 4) = false := by rw [beq_eq_false_iff_ne]; exact h4
      have hc : Hid (r = 0) := Lib.hid (by rw [hN2.out]; unfold pCmpKind; rw [if_neg h1, if_neg h2, if_neg h3, if_neg h4])
      clear h1 h2 h3 h4
      go_wp2_with fail
      go_ret
      exact ⟨ret_int (by rw [hc.out]), HB.out⟩
    · have bk : (rk != sk) = true := by rw [bne_iff_ne]; exact hk
      by_cases hl : rk < sk
      · have hc : Hid (r = -1) := Lib.hid (by rw [HN.out]; unfold pCmp2; rw [if_pos hk, if_pos hl])
        go_wp2_with fail
        go_ret
        exact ⟨ret_int (by rw [hc.out]), HB.out⟩
      · have hc : Hid (r = 1) := Lib.hid (by rw [HN.out]; unfold pCmp2; rw [if_pos hk, if_neg hl])
        go_wp2_with fail
        go_ret
        exact ⟨ret_int (by rw [hc.out]), HB.out⟩
end Go.Proofs.YteccjdclkcipbaaDoor
