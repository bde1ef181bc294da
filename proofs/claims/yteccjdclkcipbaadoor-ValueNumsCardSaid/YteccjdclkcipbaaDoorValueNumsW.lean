/-
  counterpanelaw02.ValueNums: the walk.
-/
import Derived.Test.YteccjdclkcipbaaDoorShownP
import Derived.Test.YteccjdclkcipbaaDoorVal8
import Derived.Test.YteccjdclkcipbaaDoorVal9
import Derived.Test.YteccjdclkcipbaaDoorVal12
import Derived.Test.YteccjdclkcipbaaDoorValueNumsS
namespace Go.Proofs.YteccjdclkcipbaaDoor
open Go.RowKit

theorem right_bounds {m e : Int} (h : pRight m e = true) : -9223372036854775808 ≤ m ∧ m ≤ 9223372036854775807 := by
  by_cases hz : m = 0
  · omega
  · have := pRight_of h hz
    omega
theorem text_short (m e : Int) (hR : pRight m e = true) : (nText m e).length ≤ 255 := by
  rcases Nat.lt_or_ge 255 (nText m e).length with hl | hl
  · have hp := parse_text _ _ hR
    unfold pParse at hp
    rw [if_pos hl] at hp
    cases hp
  · exact hl
theorem num_same (m e : Int) (hR : pRight m e = true) : vRight (vNumber m e) = true := by
  rw [vRight_num _ rfl]
  show (pRight m e && vSame (vNumber m e) (vNumber m e)) = true
  rw [hR, vSame_self]
  rfl
theorem num_compare (m1 e1 m2 e2 : Int) : pCompare (vNumber m1 e1) (vNumber m2 e2) = pCmp m1 e1 m2 e2 := rfl
theorem num_order (m1 e1 m2 e2 : Int) : pOrder (vNumber m1 e1) (vNumber m2 e2) = pCmp m1 e1 m2 e2 := rfl
theorem num_show (m e : Int) : vShow (vNumber m e) = nText m e := rfl
theorem num_read (m e : Int) (hR : pRight m e = true) : vRead (nText m e) = vNumber m e := by
  have := read_show (vNumber m e) (num_same m e hR) (by show ¬ (1 : Int) = 0; decide) (by show ¬ (1 : Int) = 2; decide)
  rwa [num_show] at this
theorem num_back (m e : Int) (hR : pRight m e = true) : vToNum (vText (nText m e)) = ((m, e), 0) := by
  have hs := text_short m e hR
  have h1 : vText (nText m e) = ⟨2, 0, 0, nText m e, false, 0⟩ := if_neg (by omega)
  rw [h1]
  have h2 : vToNum ⟨2, 0, 0, nText m e, false, 0⟩ = (match pParse (nText m e) with | some q => (q, 0) | none => ((0, 0), 2)) := rfl
  rw [h2, parse_text m e hR]
/-- a value in a box -/
def BoxV (w' : World) (p : Nat) (x : Val) : Prop := p < w'.heap.size ∧ w'.cell? ⟨p, 0, none⟩ = some (.int .i64 x.kind) ∧ w'.cell? ⟨p, 1, none⟩ = some (.int .i64 x.mant) ∧ w'.cell? ⟨p, 2, none⟩ = some (.int .i64 x.exp) ∧ w'.cell? ⟨p, 3, none⟩ = some (.string ⟨x.text.toArray⟩) ∧ w'.cell? ⟨p, 4, none⟩ = some (.bool x.truth) ∧ w'.cell? ⟨p, 5, none⟩ = some (.int .i64 x.fault)
theorem BoxV.next {w w' : World} {p : Nat} {x : Val} (h : BoxV w p x) (hb : Below w.heap.size w w') : BoxV w' p x := by
  obtain ⟨h0, h1, h2, h3, h4, h5, h6⟩ := h
  have hs := hb.size
  exact ⟨by omega, (hb.cell (p := ⟨_, _, none⟩) h0).trans h1, (hb.cell (p := ⟨_, _, none⟩) h0).trans h2, (hb.cell (p := ⟨_, _, none⟩) h0).trans h3, (hb.cell (p := ⟨_, _, none⟩) h0).trans h4, (hb.cell (p := ⟨_, _, none⟩) h0).trans h5, (hb.cell (p := ⟨_, _, none⟩) h0).trans h6⟩
theorem BoxV.drew {w : World} {p : Nat} {x : Val} (h : BoxV w p x) : BoxV w.drew p x := h.next (Below.refl _ _).drew
theorem BoxV.lies {w : World} {p : Nat} {x : Val} (h : Lies w p 27 (valC x)) : BoxV w p x := ⟨h.lt, h.cell 0, h.cell 1, h.cell 2, h.cell 3, h.cell 4, h.cell 5⟩
def HIn (w : World) (m1 e1 m2 e2 : Int) (x y : Val) (p q r : Nat) (w' : World) : Prop := w.heap.size + 1 < w'.heap.size ∧ w'.cell? ⟨w.heap.size, 0, none⟩ = some (.int .i64 m1) ∧ w'.cell? ⟨w.heap.size, 1, none⟩ = some (.int .i64 e1) ∧ w'.cell? ⟨w.heap.size + 1, 0, none⟩ = some (.int .i64 m2) ∧ w'.cell? ⟨w.heap.size + 1, 1, none⟩ = some (.int .i64 e2) ∧ Below w.heap.size w w' ∧ p < w'.heap.size ∧ w'.cell? ⟨p, 0, none⟩ = some (.int .i64 x.kind) ∧ w'.cell? ⟨p, 1, none⟩ = some (.int .i64 x.mant) ∧ w'.cell? ⟨p, 2, none⟩ = some (.int .i64 x.exp) ∧ w'.cell? ⟨p, 3, none⟩ = some (.string ⟨x.text.toArray⟩) ∧ w'.cell? ⟨p, 4, none⟩ = some (.bool x.truth) ∧ w'.cell? ⟨p, 5, none⟩ = some (.int .i64 x.fault) ∧ q < w'.heap.size ∧ w'.cell? ⟨q, 0, none⟩ = some (.int .i64 y.kind) ∧ w'.cell? ⟨q, 1, none⟩ = some (.int .i64 y.mant) ∧ w'.cell? ⟨q, 2, none⟩ = some (.int .i64 y.exp) ∧ w'.cell? ⟨q, 3, none⟩ = some (.string ⟨y.text.toArray⟩) ∧ w'.cell? ⟨q, 4, none⟩ = some (.bool y.truth) ∧ w'.cell? ⟨q, 5, none⟩ = some (.int .i64 y.fault) ∧ r < w'.heap.size ∧ w'.cell? ⟨r, 0, none⟩ = some (.int .i64 m1) ∧ w'.cell? ⟨r, 1, none⟩ = some (.int .i64 e1)
theorem held_below {w w' : World} {m1 e1 m2 e2 : Int} {x y : Val} {p q r : Nat} (h : w.heap.size + 1 < w'.heap.size ∧ w'.cell? ⟨w.heap.size, 0, none⟩ = some (.int .i64 m1) ∧ w'.cell? ⟨w.heap.size, 1, none⟩ = some (.int .i64 e1) ∧ w'.cell? ⟨w.heap.size + 1, 0, none⟩ = some (.int .i64 m2) ∧ w'.cell? ⟨w.heap.size + 1, 1, none⟩ = some (.int .i64 e2) ∧ Below w.heap.size w w' ∧ p < w'.heap.size ∧ w'.cell? ⟨p, 0, none⟩ = some (.int .i64 x.kind) ∧ w'.cell? ⟨p, 1, none⟩ = some (.int .i64 x.mant) ∧ w'.cell? ⟨p, 2, none⟩ = some (.int .i64 x.exp) ∧ w'.cell? ⟨p, 3, none⟩ = some (.string ⟨x.text.toArray⟩) ∧ w'.cell? ⟨p, 4, none⟩ = some (.bool x.truth) ∧ w'.cell? ⟨p, 5, none⟩ = some (.int .i64 x.fault) ∧ q < w'.heap.size ∧ w'.cell? ⟨q, 0, none⟩ = some (.int .i64 y.kind) ∧ w'.cell? ⟨q, 1, none⟩ = some (.int .i64 y.mant) ∧ w'.cell? ⟨q, 2, none⟩ = some (.int .i64 y.exp) ∧ w'.cell? ⟨q, 3, none⟩ = some (.string ⟨y.text.toArray⟩) ∧ w'.cell? ⟨q, 4, none⟩ = some (.bool y.truth) ∧ w'.cell? ⟨q, 5, none⟩ = some (.int .i64 y.fault) ∧ r < w'.heap.size ∧ w'.cell? ⟨r, 0, none⟩ = some (.int .i64 m1) ∧ w'.cell? ⟨r, 1, none⟩ = some (.int .i64 e1)) : Below w.heap.size w w' := h.2.2.2.2.2.1
theorem HIn.mk {w w' : World} {m1 e1 m2 e2 : Int} {x y : Val} {p q r : Nat} (h : TwoNum w m1 e1 m2 e2 w') (h1 : BoxV w' p x) (h2 : BoxV w' q y) (h3 : Lies w' r 23 #[.int .i64 m1, .int .i64 e1]) : HIn w m1 e1 m2 e2 x y p q r w' := by
  obtain ⟨g0, g1, g2, g3, g4, g5⟩ := h
  obtain ⟨a0, a1, a2, a3, a4, a5, a6⟩ := h1
  obtain ⟨b0, b1, b2, b3, b4, b5, b6⟩ := h2
  exact ⟨g0, g1, g2, g3, g4, g5, a0, a1, a2, a3, a4, a5, a6, b0, b1, b2, b3, b4, b5, b6, h3.lt, h3.cell 0, h3.cell 1⟩
theorem HIn.next {w w' w'' : World} {m1 e1 m2 e2 : Int} {x y : Val} {p q r : Nat} (h : HIn w m1 e1 m2 e2 x y p q r w') (hb : Below w'.heap.size w' w'') : HIn w m1 e1 m2 e2 x y p q r w'' := by
  obtain ⟨g0, g1, g2, g3, g4, g5, a0, a1, a2, a3, a4, a5, a6, b0, b1, b2, b3, b4, b5, b6, c0, c1, c2⟩ := h
  obtain ⟨k0, k1, k2, k3, k4, k5⟩ := TwoNum.next (w' := w') ⟨g0, g1, g2, g3, g4, g5⟩ hb
  obtain ⟨i0, i1, i2, i3, i4, i5, i6⟩ := BoxV.next (p := p) (x := x) ⟨a0, a1, a2, a3, a4, a5, a6⟩ hb
  obtain ⟨j0, j1, j2, j3, j4, j5, j6⟩ := BoxV.next (p := q) (x := y) ⟨b0, b1, b2, b3, b4, b5, b6⟩ hb
  have hs := hb.size
  exact ⟨k0, k1, k2, k3, k4, k5, i0, i1, i2, i3, i4, i5, i6, j0, j1, j2, j3, j4, j5, j6, by omega, (hb.cell (p := ⟨_, _, none⟩) c0).trans c1, (hb.cell (p := ⟨_, _, none⟩) c0).trans c2⟩
theorem HIn.drew {w w' : World} {m1 e1 m2 e2 : Int} {x y : Val} {p q r : Nat} (h : HIn w m1 e1 m2 e2 x y p q r w') : HIn w m1 e1 m2 e2 x y p q r w'.drew := h.next (Below.refl _ _).drew
set_option maxRecDepth 100000 in
set_option maxHeartbeats 12800000 in
theorem valueNums_any (m1 e1 m2 e2 : Int) (w : World) (ht : Tab w) (hp : PowTab w) (a1 : -9223372036854775808 ≤ m1) (a2 : m1 ≤ 9223372036854775807) (a3 : -9223372036854775808 ≤ m2) (a4 : m2 ≤ 9223372036854775807) :
    Calls Tryd.prog 3 #[numV m1 e1, numV m2 e2] w fun e w' => e = .returned (.bool true) ∧ Below w.heap.size w w' := by
  have T0 := Lib.hid (TwoNum.start w m1 e1 m2 e2)
  have HT0 : Hid (Tab ((w.alloc (.cells #[.int .i64 m1, .int .i64 e1] 23)).alloc (.cells #[.int .i64 m2, .int .i64 e2] 23))) := Lib.hid ((ht.alloc _).alloc _)
  have HP0 : Hid (PowTab ((w.alloc (.cells #[.int .i64 m1, .int .i64 e1] 23)).alloc (.cells #[.int .i64 m2, .int .i64 e2] 23))) := Lib.hid (hp.next (((Below.refl _ w).alloc (Nat.le_refl _) _).alloc (by simp) _))
  have HR1 := Lib.hid (fun W => right_any m1 e1 W a1 a2)
  have HR2 := Lib.hid (fun W => right_any m2 e2 W a3 a4)
  have HTw := Lib.hid ht
  have HPw := Lib.hid hp
  clear ht hp
  go_enter Tryd.func3, Tryd.ntmps3
  go_wp2_with fail
  refine (awake02_any _ HT0.out).mono ?_
  rintro e w1 ⟨rfl, hb⟩
  have T1 := Lib.hid (T0.out.next hb)
  have HT1 := Lib.hid (HT0.out.next hb)
  have HP1 := Lib.hid (HP0.out.next hb)
  clear hb T0 HT0 HP0
  obtain ⟨g0, g1, g2, g3, g4, g5⟩ := T1.out
  go_wp2_with fail
  refine (HR1.out _).mono ?_
  rintro e w2 ⟨rfl, hb⟩
  have T2 := Lib.hid (T1.out.next hb)
  have HT2 := Lib.hid (HT1.out.next hb)
  have HP2 := Lib.hid (HP1.out.next hb)
  clear hb T1 HT1 HP1
  clear g0 g1 g2 g3 g4 g5
  cases hR1 : pRight m1 e1
  · go_wp2_with fail
    refine (awake02_any _ HT2.out).mono ?_
    rintro e wz ⟨rfl, hbz⟩
    have HBz : Hid (Below w.heap.size w wz) := Lib.hid (T2.out.2.2.2.2.2.trans (hbz.mono T2.out.2.2.2.2.2.size))
    clear hbz
    go_wp2_with fail
    go_ret
    exact ⟨rfl, HBz.out⟩
  obtain ⟨g0, g1, g2, g3, g4, g5⟩ := T2.out
  go_wp2_with fail
  refine (HR2.out _).mono ?_
  rintro e w3 ⟨rfl, hb⟩
  have T3 := Lib.hid (T2.out.next hb)
  have HT3 := Lib.hid (HT2.out.next hb)
  have HP3 := Lib.hid (HP2.out.next hb)
  clear hb T2 HT2 HP2
  clear g0 g1 g2 g3 g4 g5
  cases hR2 : pRight m2 e2
  · go_wp2_with fail
    refine (awake02_any _ HT3.out).mono ?_
    rintro e wz ⟨rfl, hbz⟩
    have HBz : Hid (Below w.heap.size w wz) := Lib.hid (T3.out.2.2.2.2.2.trans (hbz.mono T3.out.2.2.2.2.2.size))
    clear hbz
    go_wp2_with fail
    go_ret
    exact ⟨rfl, HBz.out⟩
  clear HR1 HR2
  have fx : Fit (vNumber m1 e1) := ⟨a1, a2, fun _ => hR1, Nat.zero_le _⟩
  have fy : Fit (vNumber m2 e2) := ⟨a3, a4, fun _ => hR2, Nat.zero_le _⟩
  have hsl : (nText m1 e1).length ≤ 1000000 := by have := text_short m1 e1 hR1; omega
  have CO1 := Lib.hid (fun W => of_any m1 e1 W)
  have CO2 := Lib.hid (fun W => of_any m2 e2 W)
  have CT := Lib.hid (fun W h => nText_right m1 e1 W h a1 a2 hR1)
  have CV := Lib.hid (fun W => text_any (nText m1 e1) W hsl)
  have CN := Lib.hid (fun W => toNum_any (vText (nText m1 e1)) W (by
    have h1 : vText (nText m1 e1) = ⟨2, 0, 0, nText m1 e1, false, 0⟩ := if_neg (by have := text_short m1 e1 hR1; omega)
    rw [h1]; exact hsl))
  rw [num_back m1 e1 hR1] at CN
  have CTr : Hid (∀ W, Calls Tryd.prog 17 #[valV (vNumber m1 e1)] W fun x w' => x = .returned (.tuple #[.bool (m1 != 0), .int .i64 0]) ∧ Below W.heap.size W w') := Lib.hid (fun W => toTruth_any (vNumber m1 e1) W (Nat.zero_le _))
  have CC := Lib.hid (fun W => compare_any _ _ W fx fy)
  rw [num_compare] at CC
  have CM := Lib.hid (fun W => cmp_right m1 e1 m2 e2 W a1 a2 a3 a4 hR1 hR2)
  have COr := Lib.hid (fun W => order_any _ _ W fx fy)
  rw [num_order] at COr
  have CS := Lib.hid (fun W (h : Tab W) (h' : PowTab W) => show_any (vNumber m1 e1) W h h' a1 a2 (fun _ => hR1))
  rw [num_show] at CS
  have CRd := Lib.hid (fun W (h : Tab W) => read_any (nText m1 e1) W hsl h)
  rw [num_read m1 e1 hR1] at CRd
  have CSa := Lib.hid (fun W => same02_any (vNumber m1 e1) (vNumber m1 e1) W)
  rw [vSame_self] at CSa
  have CRi := Lib.hid (fun W => vvRight_any (vNumber m1 e1) W a1 a2 (Nat.zero_le _))
  rw [num_same m1 e1 hR1] at CRi
  clear fx fy hsl a1 a2 a3 a4 hR1 hR2
  generalize vNumber m1 e1 = x at *
  generalize vNumber m2 e2 = y at *
  generalize vText (nText m1 e1) = t at *
  generalize nText m1 e1 = s at *
  generalize pCmp m1 e1 m2 e2 = c at *
  go_upto_region 3 with fail
  go_cut [5, 6] (fun u v wx => ∃ p q, u = .pointer (some ⟨p, 0, none⟩) ∧ v = .pointer (some ⟨q, 0, none⟩) ∧ Hid (BoxV wx p x) ∧ Hid (BoxV wx q y) ∧ Hid (TwoNum w m1 e1 m2 e2 wx) ∧ Hid (Tab wx) ∧ Hid (PowTab wx))
  case first =>
    clear CT CV CN CTr CC CM COr CS CRd CSa CRi HT3 HP3
    refine wp_region_inv' (by kernel_rfl) (by kernel_rfl) (fun a0 => 28 < a0.tmps.size ∧ a0.eval (.tmp 2) = .pointer (some ⟨w.heap.size, 0, none⟩) ∧ a0.eval (.tmp 3) = .pointer (some ⟨w.heap.size + 1, 0, none⟩)) (NI w m1 e1 m2 e2 x y) ⟨by simp, rfl, rfl⟩ (NI.start _ _ _ _ _ _ _ _ _ _ T3.out.drew) ?_ ?_
    · rintro a0 ⟨hs, h2, h3⟩ listed a1 w1 i o hsz hI hun ho hdeps
      have hi := Up.of_false hun
      have hi8 : i < 8 := by rw [hsz] at hi; exact hi
      clear T3
      rcases (by omega : i = 0 ∨ i = 1 ∨ i = 2 ∨ i = 3 ∨ i = 4 ∨ i = 5 ∨ i = 6 ∨ i = 7) with rfl | rfl | rfl | rfl | rfl | rfl | rfl | rfl
      · have ho2 := ho
        simp only [List.getElem?_toArray, List.getElem?_cons_zero, Option.some.injEq] at ho2
        subst ho2
        exact ni_step0 hI hun ho rfl hs rfl rfl h2
      · have ho2 := ho
        simp only [List.getElem?_toArray, List.getElem?_cons_zero, List.getElem?_cons_succ, Option.some.injEq] at ho2
        subst ho2
        have hdep1 := hdeps _ (List.mem_toArray.2 (List.mem_cons_self ..)) rfl
        exact ni_step1 hI hun ho rfl hs rfl rfl hdep1 CO1.out
      · have ho2 := ho
        simp only [List.getElem?_toArray, List.getElem?_cons_zero, List.getElem?_cons_succ, Option.some.injEq] at ho2
        subst ho2
        exact ni_step2 hI hun ho rfl hs rfl rfl h3
      · have ho2 := ho
        simp only [List.getElem?_toArray, List.getElem?_cons_zero, List.getElem?_cons_succ, Option.some.injEq] at ho2
        subst ho2
        have hdep1 := hdeps _ (List.mem_toArray.2 (List.mem_cons_self ..)) rfl
        exact ni_step3 hI hun ho rfl hs rfl rfl hdep1 CO2.out
      · have ho2 := ho
        simp only [List.getElem?_toArray, List.getElem?_cons_zero, List.getElem?_cons_succ, Option.some.injEq] at ho2
        subst ho2
        exact ni_step4 hI hun ho rfl hs rfl rfl 
      · have ho2 := ho
        simp only [List.getElem?_toArray, List.getElem?_cons_zero, List.getElem?_cons_succ, Option.some.injEq] at ho2
        subst ho2
        exact ni_step5 hI hun ho rfl hs rfl rfl 
      · have ho2 := ho
        simp only [List.getElem?_toArray, List.getElem?_cons_zero, List.getElem?_cons_succ, Option.some.injEq] at ho2
        subst ho2
        have hdep1 := hdeps _ (List.mem_toArray.2 (List.mem_cons_self ..)) rfl
        have hdep2 := hdeps _ (List.mem_toArray.2 (List.mem_cons_of_mem _ (List.mem_cons_self ..))) rfl
        exact ni_step6 hI hun ho rfl hs rfl rfl hdep1 hdep2
      · have ho2 := ho
        simp only [List.getElem?_toArray, List.getElem?_cons_zero, List.getElem?_cons_succ, Option.some.injEq] at ho2
        subst ho2
        have hdep1 := hdeps _ (List.mem_toArray.2 (List.mem_cons_self ..)) rfl
        have hdep2 := hdeps _ (List.mem_toArray.2 (List.mem_cons_of_mem _ (List.mem_cons_self ..))) rfl
        exact ni_step7 hI hun ho rfl hs rfl rfl hdep1 hdep2
    · intro listed a' w' hI hall
      obtain ⟨v25, v26, v27, v28, v5, v6, rfl, hT, k0, k1, k2, k3, B5, B6, hne, l6, l7⟩ := hI
      obtain ⟨p, rfl, gp, hp⟩ := B5 (hall 4 (by decide))
      obtain ⟨q, rfl, gq, hq⟩ := B6 (hall 5 (by decide))
      have hp2 := hp.resolve_right (fun g => g.1 (hall 6 (by decide)))
      have hq2 := hq.resolve_right (fun g => g.1 (hall 7 (by decide)))
      have HP2 : Hid (BoxV w' p x) := Lib.hid (BoxV.lies hp2.2)
      have HQ2 : Hid (BoxV w' q y) := Lib.hid (BoxV.lies hq2.2)
      have HT5 := Lib.hid hT
      clear hp hq hp2 hq2 hT B5 B6 hne hall k0 k1 k2 k3
      have HTx : Hid (Tab w') := Lib.hid (HTw.out.next HT5.out.2.2.2.2.2)
      have HPx : Hid (PowTab w') := Lib.hid (HPw.out.next HT5.out.2.2.2.2.2)
      unfold putN
      simp only [Act.put]
      go_simp
      go_wp2_with fail
      go_meet
      exact ⟨p, q, rfl, rfl, HP2, HQ2, HT5, HTx, HPx⟩
  case rest =>
    obtain ⟨p, q, rfl, rfl, HX, HY, T4, HT4, HP4⟩ := hcut
    clear CO1 CO2 T3 HT3 HP3
    obtain ⟨g0, g1, g2, g3, g4, g5⟩ := T4.out
    go_wp2_with fail
    refine (CT.out _ HP4.out).mono ?_
    rintro e w5 ⟨rfl, hb⟩
    have T5 := Lib.hid (T4.out.next hb)
    have HT5 := Lib.hid (HT4.out.next hb)
    have HP5 := Lib.hid (HP4.out.next hb)
    have HX5 := Lib.hid (HX.out.next hb)
    have HY5 := Lib.hid (HY.out.next hb)
    clear hb T4 HT4 HP4 HX HY CT g0 g1 g2 g3 g4 g5
    go_wp2_with fail
    refine (CV.out _).mono ?_
    rintro e w6 ⟨rfl, hb⟩
    have T6 := Lib.hid (T5.out.next hb)
    have HT6 := Lib.hid (HT5.out.next hb)
    have HP6 := Lib.hid (HP5.out.next hb)
    have HX6 := Lib.hid (HX5.out.next hb)
    have HY6 := Lib.hid (HY5.out.next hb)
    clear hb T5 HT5 HP5 HX5 HY5 CV
    go_wp2_with fail
    refine (CN.out _).mono ?_
    rintro e w7 ⟨rfl, hb⟩
    have T7 := Lib.hid (T6.out.next hb)
    have HT7 := Lib.hid (HT6.out.next hb)
    have HP7 := Lib.hid (HP6.out.next hb)
    have HX7 := Lib.hid (HX6.out.next hb)
    have HY7 := Lib.hid (HY6.out.next hb)
    clear hb T6 HT6 HP6 HX6 HY6 CN
    have L8 : Hid (Lies (w7.alloc (.cells #[.int .i64 m1, .int .i64 e1] 23)) w7.heap.size 23 #[.int .i64 m1, .int .i64 e1]) := Lib.hid (Lies.new w7 _ _)
    have hb8 : Below w7.heap.size w7 (w7.alloc (.cells #[.int .i64 m1, .int .i64 e1] 23)) := (Below.refl _ _).alloc (Nat.le_refl _) _
    have T8 := Lib.hid (T7.out.next hb8)
    have HT8 := Lib.hid (HT7.out.next hb8)
    have HP8 := Lib.hid (HP7.out.next hb8)
    have HX8 := Lib.hid (HX7.out.next hb8)
    have HY8 := Lib.hid (HY7.out.next hb8)
    clear hb8 T7 HT7 HP7 HY7
    obtain ⟨x0, x1, x2, x3, x4, x5, x6⟩ := HX7.out
    clear HX7
    go_wp2_with fail
    refine (CTr.out _).mono ?_
    rintro e w9 ⟨rfl, hb⟩
    have T9 := Lib.hid (T8.out.next hb)
    have HT9 := Lib.hid (HT8.out.next hb)
    have HP9 := Lib.hid (HP8.out.next hb)
    have HX9 := Lib.hid (HX8.out.next hb)
    have HY9 := Lib.hid (HY8.out.next hb)
    have L9 := Lib.hid (Lies.next L8.out hb)
    clear hb T8 HT8 HP8 HX8 HY8 L8 x0 x1 x2 x3 x4 x5 x6 CTr
    go_wp2_with fail
    have S9 := Lib.hid (HIn.mk T9.out HX9.out HY9.out L9.out)
    clear T9 HX9 HY9 L9 HT9 HP9
    generalize w7.heap.size = r at *
    have hr1 : (c != c) = false := by simp
    have hr2 : (m1 != m1) = false := by simp
    have hr3 : (e1 != e1) = false := by simp
    have hr4 : (s != s) = false := by simp
    have hr5 : ((m1 != 0) != (m1 != 0)) = false := by simp
    have hr6 : ((m1 != 0) == (m1 != 0)) = true := by simp
    go_region_held3 (fun w' => w.heap.size + 1 < w'.heap.size ∧ w'.cell? ⟨w.heap.size, 0, none⟩ = some (.int .i64 m1) ∧ w'.cell? ⟨w.heap.size, 1, none⟩ = some (.int .i64 e1) ∧ w'.cell? ⟨w.heap.size + 1, 0, none⟩ = some (.int .i64 m2) ∧ w'.cell? ⟨w.heap.size + 1, 1, none⟩ = some (.int .i64 e2) ∧ Below w.heap.size w w' ∧ p < w'.heap.size ∧ w'.cell? ⟨p, 0, none⟩ = some (.int .i64 x.kind) ∧ w'.cell? ⟨p, 1, none⟩ = some (.int .i64 x.mant) ∧ w'.cell? ⟨p, 2, none⟩ = some (.int .i64 x.exp) ∧ w'.cell? ⟨p, 3, none⟩ = some (.string ⟨x.text.toArray⟩) ∧ w'.cell? ⟨p, 4, none⟩ = some (.bool x.truth) ∧ w'.cell? ⟨p, 5, none⟩ = some (.int .i64 x.fault) ∧ q < w'.heap.size ∧ w'.cell? ⟨q, 0, none⟩ = some (.int .i64 y.kind) ∧ w'.cell? ⟨q, 1, none⟩ = some (.int .i64 y.mant) ∧ w'.cell? ⟨q, 2, none⟩ = some (.int .i64 y.exp) ∧ w'.cell? ⟨q, 3, none⟩ = some (.string ⟨y.text.toArray⟩) ∧ w'.cell? ⟨q, 4, none⟩ = some (.bool y.truth) ∧ w'.cell? ⟨q, 5, none⟩ = some (.int .i64 y.fault) ∧ r < w'.heap.size ∧ w'.cell? ⟨r, 0, none⟩ = some (.int .i64 m1) ∧ w'.cell? ⟨r, 1, none⟩ = some (.int .i64 e1))
      (first | exact S9.out | exact S9.out.drew | exact HIn.next S9.out.drew hb | (go_split_ands; exact HIn.next (w := w) (m1 := m1) (e1 := e1) (m2 := m2) (e2 := e2) (x := x) (y := y) (p := p) (q := q) (r := r) ⟨by assumption, by assumption, by assumption, by assumption, by assumption, by assumption, by assumption, by assumption, by assumption, by assumption, by assumption, by assumption, by assumption, by assumption, by assumption, by assumption, by assumption, by assumption, by assumption, by assumption, by assumption, by assumption, by assumption⟩ hb))
      (first
        | (go_at_call 18; (with_reducible refine (CC.out _).mono ?_); rintro e wx ⟨rfl, hb⟩)
        | (go_at_call 19; (with_reducible refine (CM.out _).mono ?_); rintro e wx ⟨rfl, hb⟩)
        | (go_at_call 20; (with_reducible refine (COr.out _).mono ?_); rintro e wx ⟨rfl, hb⟩)
        | (go_at_call 21; (with_reducible refine (CS.out _ (HTw.out.next (held_below (m1 := m1) (e1 := e1) (m2 := m2) (e2 := e2) (x := x) (y := y) (p := p) (q := q) (r := r) (by assumption))) (HPw.out.next (held_below (m1 := m1) (e1 := e1) (m2 := m2) (e2 := e2) (x := x) (y := y) (p := p) (q := q) (r := r) (by assumption)))).mono ?_); rintro e wx ⟨rfl, hb⟩))
    clear CC CM COr CS S9
    go_wp2_with fail
    go_region_held3 (fun w' => w.heap.size + 1 < w'.heap.size ∧ w'.cell? ⟨w.heap.size, 0, none⟩ = some (.int .i64 m1) ∧ w'.cell? ⟨w.heap.size, 1, none⟩ = some (.int .i64 e1) ∧ w'.cell? ⟨w.heap.size + 1, 0, none⟩ = some (.int .i64 m2) ∧ w'.cell? ⟨w.heap.size + 1, 1, none⟩ = some (.int .i64 e2) ∧ Below w.heap.size w w' ∧ p < w'.heap.size ∧ w'.cell? ⟨p, 0, none⟩ = some (.int .i64 x.kind) ∧ w'.cell? ⟨p, 1, none⟩ = some (.int .i64 x.mant) ∧ w'.cell? ⟨p, 2, none⟩ = some (.int .i64 x.exp) ∧ w'.cell? ⟨p, 3, none⟩ = some (.string ⟨x.text.toArray⟩) ∧ w'.cell? ⟨p, 4, none⟩ = some (.bool x.truth) ∧ w'.cell? ⟨p, 5, none⟩ = some (.int .i64 x.fault) ∧ q < w'.heap.size ∧ w'.cell? ⟨q, 0, none⟩ = some (.int .i64 y.kind) ∧ w'.cell? ⟨q, 1, none⟩ = some (.int .i64 y.mant) ∧ w'.cell? ⟨q, 2, none⟩ = some (.int .i64 y.exp) ∧ w'.cell? ⟨q, 3, none⟩ = some (.string ⟨y.text.toArray⟩) ∧ w'.cell? ⟨q, 4, none⟩ = some (.bool y.truth) ∧ w'.cell? ⟨q, 5, none⟩ = some (.int .i64 y.fault) ∧ r < w'.heap.size ∧ w'.cell? ⟨r, 0, none⟩ = some (.int .i64 m1) ∧ w'.cell? ⟨r, 1, none⟩ = some (.int .i64 e1))
      (first | (go_split_ands; exact HIn.next (w := w) (m1 := m1) (e1 := e1) (m2 := m2) (e2 := e2) (x := x) (y := y) (p := p) (q := q) (r := r) ⟨by assumption, by assumption, by assumption, by assumption, by assumption, by assumption, by assumption, by assumption, by assumption, by assumption, by assumption, by assumption, by assumption, by assumption, by assumption, by assumption, by assumption, by assumption, by assumption, by assumption, by assumption, by assumption, by assumption⟩ hb) | (go_split_ands; exact HIn.drew (w := w) (m1 := m1) (e1 := e1) (m2 := m2) (e2 := e2) (x := x) (y := y) (p := p) (q := q) (r := r) ⟨by assumption, by assumption, by assumption, by assumption, by assumption, by assumption, by assumption, by assumption, by assumption, by assumption, by assumption, by assumption, by assumption, by assumption, by assumption, by assumption, by assumption, by assumption, by assumption, by assumption, by assumption, by assumption, by assumption⟩))
      (first
        | (go_at_call 23; (with_reducible refine (CRd.out _ (HTw.out.next (held_below (m1 := m1) (e1 := e1) (m2 := m2) (e2 := e2) (x := x) (y := y) (p := p) (q := q) (r := r) (by assumption)))).mono ?_); rintro e wx ⟨rfl, hb⟩)
        | (go_at_call 22; (with_reducible refine (CSa.out _).mono ?_); rintro e wx ⟨rfl, hb⟩)
        | (go_at_call 24; (with_reducible refine (CRi.out _).mono ?_); rintro e wx ⟨rfl, hb⟩))
    all_goals go_wp2_with fail
    all_goals go_ret
    all_goals refine ⟨rfl, ?_⟩
    all_goals first | assumption | (go_split_ands; assumption)
end Go.Proofs.YteccjdclkcipbaaDoor
