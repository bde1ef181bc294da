/-
  counterpanelaw31.MaskSigns: the walk.
-/
import Derived.Test.YteccjdclkcipbaaDoorMask10
import Derived.Test.YteccjdclkcipbaaDoorPlMs
import Derived.Test.YteccjdclkcipbaaDoorRefC
import Derived.Test.YteccjdclkcipbaaDoorVal12
namespace Go.Proofs.YteccjdclkcipbaaDoor
open Go.RowKit

set_option maxRecDepth 100000 in
set_option maxHeartbeats 3200000 in
theorem mshow_other (tx : Bs) (v : Value) (L : List MS) (x : Val) (w : World) (hk : x.kind ≠ 1) (hF : FmtAt w v L) (h0 : 0 < L.length) (h4 : L.length < 4) (hT : Tab w) (hP : PowTab w) (hR : vRight x = true) :
    Calls Tryd.prog 28 #[.agg #[.string ⟨tx.toArray⟩, v], valV x] w fun e w' => e = .returned (.string ⟨(vShow x).toArray⟩) ∧ Below w.heap.size w w' := by
  obtain ⟨g, cap, rfl, hlt⟩ := hF.form h0
  have HB : Hid (Below w.heap.size w ((w.alloc (.cells #[.string ⟨tx.toArray⟩, .slice (some ⟨g, 0, none⟩) L.length cap] 43)).alloc (.cells (valC x) 27))) := Lib.hid (((Below.refl _ w).alloc (Nat.le_refl _) _).alloc (by simp) _)
  have CS := Lib.hid (fun W h1 h2 => show_any x W h1 h2)
  have HT := Lib.hid hT
  have HP := Lib.hid hP
  have hb4 : ((L.length : Int) == 4) = false := by rw [beq_eq_false_iff_ne]; omega
  clear hF hlt hT hP
  generalize L.length = n at *
  rcases right_forms x hR with rfl | ⟨m, e, rfl, h⟩ | ⟨t, rfl, h⟩ | ⟨b, rfl⟩ | ⟨f, rfl, h1, h2⟩
  · have C := Lib.hid (fun W h1 h2 => CS.out W h1 h2 (by show (-9223372036854775808 : Int) ≤ 0; decide) (by show (0 : Int) ≤ 9223372036854775807; decide) (fun h => by cases h))
    clear hk hR CS
    generalize vShow ⟨0, 0, 0, [], false, 0⟩ = r at *
    go_enter Tryd.func28, Tryd.ntmps28
    go_wp2_with fail
    refine (C.out _ (HT.out.next HB.out) (HP.out.next HB.out)).mono ?_
    rintro e w1 ⟨rfl, hb⟩
    have HB1 := Lib.hid (HB.out.trans (hb.mono HB.out.size))
    clear hb
    go_wp2_with fail
    go_ret
    exact ⟨rfl, HB1.out⟩
  · exact absurd rfl hk
  · clear hk hR CS h
    have hr : vShow ⟨2, 0, 0, t, false, 0⟩ = t := rfl
    rw [hr]
    clear hr
    go_enter Tryd.func28, Tryd.ntmps28
    go_wp2_with fail
    go_ret
    exact ⟨rfl, HB.out⟩
  · have C := Lib.hid (fun W h1 h2 => CS.out W h1 h2 (by show (-9223372036854775808 : Int) ≤ 0; decide) (by show (0 : Int) ≤ 9223372036854775807; decide) (fun h => by cases h))
    clear hk hR CS
    generalize vShow ⟨3, 0, 0, [], b, 0⟩ = r at *
    go_enter Tryd.func28, Tryd.ntmps28
    go_wp2_with fail
    refine (C.out _ (HT.out.next HB.out) (HP.out.next HB.out)).mono ?_
    rintro e w1 ⟨rfl, hb⟩
    have HB1 := Lib.hid (HB.out.trans (hb.mono HB.out.size))
    clear hb
    go_wp2_with fail
    go_ret
    exact ⟨rfl, HB1.out⟩
  · have C := Lib.hid (fun W h1 h2 => CS.out W h1 h2 (by show (-9223372036854775808 : Int) ≤ 0; decide) (by show (0 : Int) ≤ 9223372036854775807; decide) (fun h => by cases h))
    clear hk hR CS h1 h2
    generalize vShow ⟨4, 0, 0, [], false, f⟩ = r at *
    go_enter Tryd.func28, Tryd.ntmps28
    go_wp2_with fail
    refine (C.out _ (HT.out.next HB.out) (HP.out.next HB.out)).mono ?_
    rintro e w1 ⟨rfl, hb⟩
    have HB1 := Lib.hid (HB.out.trans (hb.mono HB.out.size))
    clear hb
    go_wp2_with fail
    go_ret
    exact ⟨rfl, HB1.out⟩
theorem pRight_opp {m e : Int} (h : pRight m e = true) : pRight (-m) e = true := by
  unfold pRight at h ⊢
  simpa using h
/-- the value's box and the format's, in a world that grew out of base W -/
def VIn (W : World) (q f : Nat) (v : Val) (s1 v1 : Value) (w' : World) : Prop :=
  w'.cell? ⟨q, 0, none⟩ = some (.int .i64 v.kind) ∧ w'.cell? ⟨q, 1, none⟩ = some (.int .i64 v.mant) ∧ w'.cell? ⟨q, 2, none⟩ = some (.int .i64 v.exp) ∧ w'.cell? ⟨q, 3, none⟩ = some (.string ⟨v.text.toArray⟩) ∧ w'.cell? ⟨q, 4, none⟩ = some (.bool v.truth) ∧ w'.cell? ⟨q, 5, none⟩ = some (.int .i64 v.fault) ∧ w'.cell? ⟨f, 0, none⟩ = some s1 ∧ w'.cell? ⟨f, 1, none⟩ = some v1 ∧ q < w'.heap.size ∧ f < w'.heap.size ∧ Below W.heap.size W w'
theorem VIn.next {W : World} {q f : Nat} {v : Val} {s1 v1 : Value} {w w' : World} (h : VIn W q f v s1 v1 w) (hb : Below w.heap.size w w') : VIn W q f v s1 v1 w' := by
  obtain ⟨a1, a2, a3, a4, a5, a6, a7, a8, h1, h2, b⟩ := h
  have hs := hb.size
  exact ⟨(hb.cell (p := ⟨_, _, none⟩) h1).trans a1, (hb.cell (p := ⟨_, _, none⟩) h1).trans a2, (hb.cell (p := ⟨_, _, none⟩) h1).trans a3, (hb.cell (p := ⟨_, _, none⟩) h1).trans a4, (hb.cell (p := ⟨_, _, none⟩) h1).trans a5, (hb.cell (p := ⟨_, _, none⟩) h1).trans a6, (hb.cell (p := ⟨_, _, none⟩) h2).trans a7, (hb.cell (p := ⟨_, _, none⟩) h2).trans a8, by omega, by omega, b.trans (hb.mono b.size)⟩
/-- the boxes of the number and the value -/
structure SIn (w : World) (m e : Int) (v : Val) (w' : World) : Prop where
  num : Lies w' w.heap.size 23 #[.int .i64 m, .int .i64 e]
  val : Lies w' (w.heap.size + 1) 27 (valC v)
  bel : Below w.heap.size w w'
theorem SIn.start (w : World) (m e : Int) (v : Val) : SIn w m e v ((w.alloc (.cells #[.int .i64 m, .int .i64 e] 23)).alloc (.cells (valC v) 27)) :=
  ⟨(Lies.new w _ _).alloc _, by have := Lies.new (w.alloc (.cells #[.int .i64 m, .int .i64 e] 23)) 27 (valC v); simpa using this, ((Below.refl _ w).alloc (Nat.le_refl _) _).alloc (by simp) _⟩
theorem SIn.next {w w' w'' : World} {m e : Int} {v : Val} (h : SIn w m e v w') (hb : Below w'.heap.size w' w'') : SIn w m e v w'' :=
  ⟨Lies.below h.num hb, Lies.below h.val hb, h.bel.trans (hb.mono h.bel.size)⟩
theorem SIn.cells {w w' : World} {m e : Int} {v : Val} (h : SIn w m e v w') : w'.cell? ⟨w.heap.size, 0, none⟩ = some (.int .i64 m) ∧ w'.cell? ⟨w.heap.size, 1, none⟩ = some (.int .i64 e) ∧ w'.cell? ⟨w.heap.size + 1, 0, none⟩ = some (.int .i64 v.kind) ∧ w'.cell? ⟨w.heap.size + 1, 1, none⟩ = some (.int .i64 v.mant) ∧ w'.cell? ⟨w.heap.size + 1, 2, none⟩ = some (.int .i64 v.exp) ∧ w'.cell? ⟨w.heap.size + 1, 3, none⟩ = some (.string ⟨v.text.toArray⟩) ∧ w'.cell? ⟨w.heap.size + 1, 4, none⟩ = some (.bool v.truth) ∧ w'.cell? ⟨w.heap.size + 1, 5, none⟩ = some (.int .i64 v.fault) :=
  ⟨h.num.cell 0, h.num.cell 1, h.val.cell 0, h.val.cell 1, h.val.cell 2, h.val.cell 3, h.val.cell 4, h.val.cell 5⟩
theorem VIn.start {w W : World} {m e : Int} {v : Val} {f : Nat} {s1 v1 : Value} (h : SIn w m e v W) (hx : Lies W f 43 #[s1, v1]) : VIn W (w.heap.size + 1) f v s1 v1 W :=
  ⟨h.cells.2.2.1, h.cells.2.2.2.1, h.cells.2.2.2.2.1, h.cells.2.2.2.2.2.1, h.cells.2.2.2.2.2.2.1, h.cells.2.2.2.2.2.2.2, hx.cell 0, hx.cell 1, h.val.lt, hx.lt, Below.refl _ _⟩
theorem semi_mem {s : Bs} {i : Nat} (h : ∀ j, j < i → atIs s j 59 = false) (hi : ¬ i < s.length) : (59 : UInt8) ∉ s := fun hm => by
  obtain ⟨j, hj, e⟩ := List.getElem_of_mem hm
  have := at_not (h j (by omega)) hj
  exact this e
set_option maxRecDepth 100000 in
set_option maxHeartbeats 12800000 in
theorem maskSigns_any (s : Bs) (m e : Int) (v : Val) (w : World) (hs : s.length ≤ maxLen) (h1 : -9223372036854775808 ≤ m) (h2 : m ≤ 9223372036854775807) (h3 : -9223372036854775808 ≤ v.mant) (h4 : v.mant ≤ 9223372036854775807) (hl : v.text.length ≤ maxLen) (hT : Tab w) (hP : PowTab w) (hM : MaxVar w) :
    Calls Tryd.prog 5 #[.string ⟨s.toArray⟩, numV m e, valV v] w fun x w' => x = .returned (.bool true) ∧ Below w.heap.size w w' := by
  have CA := Lib.hid (fun W h1 h2 h3 => awake31_any W h1 h2 h3)
  have CR := Lib.hid (fun W => rRight_any m e W h1 h2)
  have CV := Lib.hid (fun W => rvRight_any v W h3 h4 hl)
  have I0 := Lib.hid (SIn.start w m e v)
  have HT := Lib.hid hT
  have HP := Lib.hid hP
  have HM := Lib.hid hM
  obtain ⟨k, vm, ve, vt, vb, vf⟩ := v
  unfold maxLen at hs
  clear hT hP hM h1 h2 h3 h4 hl
  by_cases h400 : 400 < s.length
  · go_enter Tryd.func5, Tryd.ntmps5
    go_wp2_with fail
    refine (CA.out _ (HT.out.next I0.out.bel) (HP.out.next I0.out.bel) (HM.out.next I0.out.bel)).mono ?_
    rintro x w1 ⟨rfl, hb⟩
    have I1 := Lib.hid (I0.out.next hb)
    clear hb I0 CA CR CV
    go_wp2_with fail
    go_ret
    exact ⟨rfl, I1.out.bel⟩
  go_enter Tryd.func5, Tryd.ntmps5
  go_wp2_with fail
  refine (CA.out _ (HT.out.next I0.out.bel) (HP.out.next I0.out.bel) (HM.out.next I0.out.bel)).mono ?_
  rintro x w1 ⟨rfl, hb⟩
  have I1 := Lib.hid (I0.out.next hb)
  clear hb I0 CA
  obtain ⟨x0, x1, y0, y1, y2, y3, y4, y5⟩ := I1.out.cells
  go_wp2_with fail
  refine (CR.out _).mono ?_
  rintro x w2 ⟨rfl, hb⟩
  have I2 := Lib.hid (I1.out.next hb)
  clear hb I1 CR x0 x1 y0 y1 y2 y3 y4 y5
  obtain ⟨x0, x1, y0, y1, y2, y3, y4, y5⟩ := I2.out.cells
  cases hR : pRight m e
  · clear hR
    go_wp2_with fail
    go_ret
    exact ⟨rfl, I2.out.bel⟩
  by_cases hm1 : m < 1
  · clear hR
    go_wp2_with fail
    go_ret
    exact ⟨rfl, I2.out.bel⟩
  go_wp2_with fail
  refine (CV.out _).mono ?_
  rintro x w3 ⟨rfl, hb⟩
  have I3 := Lib.hid (I2.out.next hb)
  clear hb I2 CV x0 x1 y0 y1 y2 y3 y4 y5
  cases hV : vRight ⟨k, vm, ve, vt, vb, vf⟩
  · clear hV hR
    go_wp2_with fail
    go_ret
    exact ⟨rfl, I3.out.bel⟩
  have HR := Lib.hid hR
  have HV := Lib.hid hV
  clear hV hR
  go_wp2_with fail
  go_loop [7] (fun v => ∃ i : Nat, v = .int .i64 (i : Int) ∧ i ≤ s.length ∧ Hid (∀ j, j < i → atIs s j 59 = false)) (fun v => s.length - (intOf v).toNat)
  case atStart => exact ⟨0, rfl, Nat.zero_le _, Lib.hid (fun j h => by omega)⟩
  case round =>
    obtain ⟨i, rfl, hi, hno⟩ := hrel
    by_cases hlt : i < s.length
    · have e59 := at_beq s i 59 59 rfl hlt
      cases h59 : atIs s i 59
      · rw [h59] at e59
        have hno2 : Hid (∀ j, j < i + 1 → atIs s j 59 = false) := Lib.hid (fun j hj => by
          rcases (by omega : j < i ∨ j = i) with g | rfl
          · exact hno.out j g
          · exact h59)
        clear hno h59
        go_wp2_with fail
        go_round
        case rel => exact ⟨i + 1, by go_num, by omega, hno2⟩
        case measure => simp [intOf]; omega
      · rw [h59] at e59
        clear hno h59
        go_wp2_with fail
        go_ret
        exact ⟨rfl, I3.out.bel⟩
    · have h59 := semi_mem hno.out hlt
      have CP := Lib.hid (fun W => parse_mask s W (by omega))
      clear hno
      cases hR : mParse s with
      | inr p =>
        obtain ⟨a, f⟩ := p
        have hf := parse_errs s (a, f) hR
        rw [hR] at CP
        clear hR h59
        dsimp only at hf
        rcases hf with rfl | rfl | rfl | rfl
        all_goals
          go_wp2_with fail
          refine (CP.out _).mono ?_
          rintro x w4 ⟨rfl, hb⟩
          have hbn : Below w4.heap.size w4 (w4.alloc (.cells #[.string ⟨#[]⟩, .slice none 0 0] 43)) := (Below.refl _ _).alloc (Nat.le_refl _) _
          have I4 := Lib.hid ((I3.out.next hb).next hbn)
          clear hb hbn I3 CP
          go_wp2_with fail
          go_ret
          exact ⟨rfl, I4.out.bel⟩
      | inl L =>
        obtain ⟨x, rfl, hPP⟩ := parse_one s h59 L hR
        have hfine := parse_fine s _ hR
        rw [hR] at CP
        obtain ⟨hsg, hsg2⟩ := signs_one x m e (by omega)
        obtain ⟨hma, hmb⟩ := rb HR.out
        have hT1l := mNumber_len x m e HR.out (hfine.2.2 x (List.mem_singleton_self x)) (by omega)
        have CS1 := Lib.hid (fun v W h1 h2 h3 h4 => mshow_num s v [x] ⟨1, m, e, [], false, 0⟩ W rfl h1 hfine h2 h3 h4 HR.out)
        have CS2 := Lib.hid (fun v W h1 h2 h3 h4 => mshow_num s v [x] ⟨1, -m, e, [], false, 0⟩ W rfl h1 hfine h2 h3 h4 (pRight_opp HR.out))
        have CS3 := Lib.hid (fun v W h1 h2 h3 h4 h5 => mshow_num (s ++ 59 :: s) v [x, x] ⟨1, -m, e, [], false, 0⟩ W rfl h1 h5 h2 h3 h4 (pRight_opp HR.out))
        have HPP := Lib.hid hPP
        dsimp only at CS1 CS2 CS3
        rw [hsg2] at CS3
        generalize mNumber [x] m e = T1 at *
        generalize mNumber [x] (-m) e = T2 at *
        have HSg := Lib.hid hsg
        clear hsg hsg2 hR h59 hPP
        go_wp2_with fail
        refine (CP.out _).mono ?_
        rintro z w4 ⟨v1, rfl, hf1, hb1⟩
        obtain ⟨g1, c1, rfl, hg1⟩ := hf1.form (by simp)
        have hbn1 : Below w4.heap.size w4 (w4.alloc (.cells #[.string ⟨s.toArray⟩, .slice (some ⟨g1, 0, none⟩) 1 c1] 43)) := (Below.refl _ _).alloc (Nat.le_refl _) _
        have HF1 := Lib.hid (hf1.next hbn1)
        have HX1 : Hid (Lies (w4.alloc (.cells #[.string ⟨s.toArray⟩, .slice (some ⟨g1, 0, none⟩) 1 c1] 43)) w4.heap.size 43 #[.string ⟨s.toArray⟩, .slice (some ⟨g1, 0, none⟩) 1 c1]) := Lib.hid (Lies.new w4 _ _)
        have I4 := Lib.hid ((I3.out.next hb1).next hbn1)
        clear hbn1 hf1 hb1 hg1 CP I3
        have hl1 : [x].length = 1 := rfl
        rw [hl1] at HF1 ⊢
        clear hl1
        obtain ⟨x0, x1, y0, y1, y2, y3, y4, y5⟩ := I4.out.cells
        go_wp2_with fail
        refine (CS1.out _ _ HF1.out (HT.out.next I4.out.bel) (HP.out.next I4.out.bel) (HM.out.next I4.out.bel)).mono ?_
        rintro z w5 ⟨rfl, hb⟩
        have I5 := Lib.hid (I4.out.next hb)
        have HF2 := Lib.hid (HF1.out.next hb)
        have HX2 := Lib.hid (Lies.below HX1.out hb)
        clear hb HF1 HX1 I4 x0 x1 y0 y1 y2 y3 y4 y5 CS1
        obtain ⟨x0, x1, y0, y1, y2, y3, y4, y5⟩ := I5.out.cells
        have z0 := HX2.out.cell 0
        have z1 := HX2.out.cell 1
        simp only [List.getElem?_toArray, List.getElem?_cons_zero, List.getElem?_cons_succ] at z0 z1
        go_wp2_with fail
        refine (CS2.out _ _ HF2.out (HT.out.next I5.out.bel) (HP.out.next I5.out.bel) (HM.out.next I5.out.bel)).mono ?_
        rintro z w6 ⟨rfl, hb⟩
        have I6 := Lib.hid (I5.out.next hb)
        have HF3 := Lib.hid (HF2.out.next hb)
        have HX3 := Lib.hid (Lies.below HX2.out hb)
        clear hb HF2 HX2 I5 x0 x1 y0 y1 y2 y3 y4 y5 z0 z1 CS2
        have hsl : s.length ≤ 400 := by omega
        have CP2 := Lib.hid (fun W => parse_mask (s ++ 59 :: s) W (by simp; omega))
        have hT1m : ¬ 9223372036854775807 < 1 + T1.length := by omega
        rcases HSg.out with hsg | hsg
        all_goals
          subst hsg
          clear HSg
          go_upto_region 17 with fail
          go_wp2_with fail
          rcases HPP.out with hpp | ⟨⟨a2, f2⟩, hpp⟩
          · have hfine2 := parse_fine _ _ hpp
            rw [hpp] at CP2
            clear hpp HPP
            refine (CP2.out _).mono ?_
            rintro z w7 ⟨v2, rfl, hf2, hb2⟩
            obtain ⟨g2, c2, rfl, hg2⟩ := hf2.form (by simp)
            have hbn2 : Below w7.heap.size w7 (w7.alloc (.cells #[.string ⟨(s ++ 59 :: s).toArray⟩, .slice (some ⟨g2, 0, none⟩) 2 c2] 43)) := (Below.refl _ _).alloc (Nat.le_refl _) _
            have HG := Lib.hid (hf2.next hbn2)
            have I7 := Lib.hid ((I6.out.next hb2).next hbn2)
            have HF4 := Lib.hid ((HF3.out.next hb2).next hbn2)
            have HX4 := Lib.hid (Lies.below (Lies.below HX3.out hb2) hbn2)
            clear hbn2 hf2 hb2 hg2 CP2 I6 HF3 HX3
            have hl1 : [x, x].length = 2 := rfl
            rw [hl1] at HG ⊢
            clear hl1
            obtain ⟨x0, x1, y0, y1, y2, y3, y4, y5⟩ := I7.out.cells
            go_wp2_with fail
            refine (CS3.out _ _ HG.out (HT.out.next I7.out.bel) (HP.out.next I7.out.bel) (HM.out.next I7.out.bel) hfine2).mono ?_
            rintro z w8 ⟨rfl, hb⟩
            have I8 := Lib.hid (I7.out.next hb)
            have HF5 := Lib.hid (HF4.out.next hb)
            have HX5 := Lib.hid (Lies.below HX4.out hb)
            clear hb HG HF4 HX4 I7 x0 x1 y0 y1 y2 y3 y4 y5 CS3
            go_upto_region 20 with fail
            have T0 := Lib.hid (VIn.start I8.out HX5.out)
            have HB8 := Lib.hid I8.out.bel
            obtain ⟨-, -, y0, -, -, -, -, -⟩ := I8.out.cells
            dsimp only at y0
            generalize w8 = W at *
            generalize hN0 : w.heap.size = N0 at *
            generalize hQ : N0 + 1 = Q at *
            generalize w4.heap.size = f4 at *
            by_cases hk1 : k = 1
            · have e1 : (k == 1) = true := by rw [beq_iff_eq]; exact hk1
              clear T0 HF5 HX5 I8 hk1
              first | go_quiet (fail) | fail
              go_wp2_with fail
              go_ret
              exact ⟨rfl, hN0 ▸ below_drewN HB8.out nq⟩
            · have e1 : (k == 1) = false := by rw [beq_eq_false_iff_ne]; exact hk1
              have K1 : Hid (∀ W', Below W.heap.size W W' → Calls Tryd.prog 28 #[.agg #[.string ⟨s.toArray⟩, .slice (some ⟨g1, 0, none⟩) 1 c1], .agg #[.int .i64 k, .int .i64 vm, .int .i64 ve, .string ⟨vt.toArray⟩, .bool vb, .int .i64 vf]] W' fun e w' => e = .returned (.string ⟨(vShow ⟨k, vm, ve, vt, vb, vf⟩).toArray⟩) ∧ Below W'.heap.size W' w') :=
                Lib.hid (fun W' hb => mshow_other s _ [x] ⟨k, vm, ve, vt, vb, vf⟩ W' hk1 (HF5.out.next hb) (by simp) (by simp) ((HT.out.next (hN0 ▸ HB8.out)).next hb) ((HP.out.next (hN0 ▸ HB8.out)).next hb) HV.out)
              have K2 : Hid (∀ W', Calls Tryd.prog 32 #[.agg #[.int .i64 k, .int .i64 vm, .int .i64 ve, .string ⟨vt.toArray⟩, .bool vb, .int .i64 vf]] W' fun e w' => e = .returned (.string ⟨(vShow ⟨k, vm, ve, vt, vb, vf⟩).toArray⟩) ∧ Below W'.heap.size W' w') :=
                Lib.hid (fun W' => rShow_right ⟨k, vm, ve, vt, vb, vf⟩ W' HV.out)
              generalize vShow ⟨k, vm, ve, vt, vb, vf⟩ = T at *
              clear HF5 HX5 I8 hk1 HV
              go_region_held3 (fun w' => w'.cell? ⟨Q, 0, none⟩ = some (.int .i64 k) ∧ w'.cell? ⟨Q, 1, none⟩ = some (.int .i64 vm) ∧ w'.cell? ⟨Q, 2, none⟩ = some (.int .i64 ve) ∧ w'.cell? ⟨Q, 3, none⟩ = some (.string ⟨vt.toArray⟩) ∧ w'.cell? ⟨Q, 4, none⟩ = some (.bool vb) ∧ w'.cell? ⟨Q, 5, none⟩ = some (.int .i64 vf) ∧ w'.cell? ⟨f4, 0, none⟩ = some (.string ⟨s.toArray⟩) ∧ w'.cell? ⟨f4, 1, none⟩ = some (.slice (some ⟨g1, 0, none⟩) 1 c1) ∧ Q < w'.heap.size ∧ f4 < w'.heap.size ∧ Below W.heap.size W w')
                (first | exact T0.out | exact T0.out.next (Below.refl _ _).drew | exact (VIn.next (VIn.next T0.out (Below.refl _ _).drew) hb) | (go_split_ands; exact (VIn.next (W := W) (v := ⟨k, vm, ve, vt, vb, vf⟩) ⟨by assumption, by assumption, by assumption, by assumption, by assumption, by assumption, by assumption, by assumption, by assumption, by assumption, by assumption⟩ hb)))
                (first
                  | (go_at_call 28; (with_reducible refine (K1.out _ ?hbw).mono ?_); (case hbw => (first | assumption | exact (Below.refl _ _).drew | (go_split_ands; assumption))); rintro z wx ⟨rfl, hb⟩)
                  | (go_at_call 32; (with_reducible refine (K2.out _).mono ?_); rintro z wx ⟨rfl, hb⟩))
              all_goals go_wp2_with fail
              all_goals go_ret
              all_goals exact ⟨rfl, hN0 ▸ HB8.out.trans (Below.mono (by first | assumption | (go_split_ands; assumption)) (by have := HB8.out.size; omega))⟩
          · have hf2 : f2 ≠ 0 := by
              have h := parse_errs _ _ hpp
              dsimp only at h
              omega
            have bf2 : (f2 == 0) = false := by rw [beq_eq_false_iff_ne]; exact hf2
            rw [hpp] at CP2
            clear hpp HPP CS3 hf2
            refine (CP2.out _).mono ?_
            rintro z w7 ⟨rfl, hb⟩
            have hbn2 : Below w7.heap.size w7 (w7.alloc (.cells #[.string ⟨#[]⟩, .slice none 0 0] 43)) := (Below.refl _ _).alloc (Nat.le_refl _) _
            have I8 := Lib.hid ((I6.out.next hb).next hbn2)
            have HF5 := Lib.hid ((HF3.out.next hb).next hbn2)
            have HX5 := Lib.hid (Lies.below (Lies.below HX3.out hb) hbn2)
            clear hb hbn2 I6 HF3 HX3 CP2
            go_upto_region 20 with fail
            have T0 := Lib.hid (VIn.start I8.out HX5.out)
            have HB8 := Lib.hid I8.out.bel
            obtain ⟨-, -, y0, -, -, -, -, -⟩ := I8.out.cells
            dsimp only at y0
            generalize w7.alloc (.cells #[.string ⟨#[]⟩, .slice none 0 0] 43) = W at *
            generalize hN0 : w.heap.size = N0 at *
            generalize hQ : N0 + 1 = Q at *
            generalize w4.heap.size = f4 at *
            by_cases hk1 : k = 1
            · have e1 : (k == 1) = true := by rw [beq_iff_eq]; exact hk1
              clear T0 HF5 HX5 I8 hk1
              first | go_quiet (fail) | fail
              go_wp2_with fail
              go_ret
              exact ⟨rfl, hN0 ▸ below_drewN HB8.out nq⟩
            · have e1 : (k == 1) = false := by rw [beq_eq_false_iff_ne]; exact hk1
              have K1 : Hid (∀ W', Below W.heap.size W W' → Calls Tryd.prog 28 #[.agg #[.string ⟨s.toArray⟩, .slice (some ⟨g1, 0, none⟩) 1 c1], .agg #[.int .i64 k, .int .i64 vm, .int .i64 ve, .string ⟨vt.toArray⟩, .bool vb, .int .i64 vf]] W' fun e w' => e = .returned (.string ⟨(vShow ⟨k, vm, ve, vt, vb, vf⟩).toArray⟩) ∧ Below W'.heap.size W' w') :=
                Lib.hid (fun W' hb => mshow_other s _ [x] ⟨k, vm, ve, vt, vb, vf⟩ W' hk1 (HF5.out.next hb) (by simp) (by simp) ((HT.out.next (hN0 ▸ HB8.out)).next hb) ((HP.out.next (hN0 ▸ HB8.out)).next hb) HV.out)
              have K2 : Hid (∀ W', Calls Tryd.prog 32 #[.agg #[.int .i64 k, .int .i64 vm, .int .i64 ve, .string ⟨vt.toArray⟩, .bool vb, .int .i64 vf]] W' fun e w' => e = .returned (.string ⟨(vShow ⟨k, vm, ve, vt, vb, vf⟩).toArray⟩) ∧ Below W'.heap.size W' w') :=
                Lib.hid (fun W' => rShow_right ⟨k, vm, ve, vt, vb, vf⟩ W' HV.out)
              generalize vShow ⟨k, vm, ve, vt, vb, vf⟩ = T at *
              clear HF5 HX5 I8 hk1 HV
              go_region_held3 (fun w' => w'.cell? ⟨Q, 0, none⟩ = some (.int .i64 k) ∧ w'.cell? ⟨Q, 1, none⟩ = some (.int .i64 vm) ∧ w'.cell? ⟨Q, 2, none⟩ = some (.int .i64 ve) ∧ w'.cell? ⟨Q, 3, none⟩ = some (.string ⟨vt.toArray⟩) ∧ w'.cell? ⟨Q, 4, none⟩ = some (.bool vb) ∧ w'.cell? ⟨Q, 5, none⟩ = some (.int .i64 vf) ∧ w'.cell? ⟨f4, 0, none⟩ = some (.string ⟨s.toArray⟩) ∧ w'.cell? ⟨f4, 1, none⟩ = some (.slice (some ⟨g1, 0, none⟩) 1 c1) ∧ Q < w'.heap.size ∧ f4 < w'.heap.size ∧ Below W.heap.size W w')
                (first | exact T0.out | exact T0.out.next (Below.refl _ _).drew | exact (VIn.next (VIn.next T0.out (Below.refl _ _).drew) hb) | (go_split_ands; exact (VIn.next (W := W) (v := ⟨k, vm, ve, vt, vb, vf⟩) ⟨by assumption, by assumption, by assumption, by assumption, by assumption, by assumption, by assumption, by assumption, by assumption, by assumption, by assumption⟩ hb)))
                (first
                  | (go_at_call 28; (with_reducible refine (K1.out _ ?hbw).mono ?_); (case hbw => (first | assumption | exact (Below.refl _ _).drew | (go_split_ands; assumption))); rintro z wx ⟨rfl, hb⟩)
                  | (go_at_call 32; (with_reducible refine (K2.out _).mono ?_); rintro z wx ⟨rfl, hb⟩))
              all_goals go_wp2_with fail
              all_goals go_ret
              all_goals exact ⟨rfl, hN0 ▸ HB8.out.trans (Below.mono (by first | assumption | (go_split_ands; assumption)) (by have := HB8.out.size; omega))⟩
end Go.Proofs.YteccjdclkcipbaaDoor
