/-
  The walk of law12.FtextNames.
-/
import Derived.Test.YtpdaloohgfnbhaaGreatDoorFt27
namespace Go.Proofs.YtpdaloohgfnbhaaGreatDoor
open Go.RowKit

theorem bad09_n (W : World) : Calls Tryz.prog 13 #[.int .i64 2] W fun x w' => ∃ g c, x = .returned (.agg #[.int .i64 1, .int .i64 1, .slice (some ⟨g, 0, none⟩) 1 c]) ∧ VP w' g [vBad 2] ∧ Below W.heap.size W w' := by
  refine (bad09_any 2 W).mono ?_
  rintro x w' ⟨v, rfl, ⟨g, c, rfl, h⟩, hb⟩
  exact ⟨g, c, rfl, h, hb⟩
theorem call_nil_s (name : Bs) (h : name ∈ names12) (w : World) : Calls Tryz.prog 9 #[.string ⟨name.toArray⟩, .slice none 0 0] w fun x w' => ∃ g c, x = .returned (.tuple #[.agg #[.int .i64 1, .int .i64 1, .slice (some ⟨g, 0, none⟩) 1 c], .bool true]) ∧ VP w' g [vBad 2] ∧ Below w.heap.size w w' := by
  refine (call_nil_known name h w).mono ?_
  rintro x w' ⟨v, rfl, ⟨g, c, rfl, h⟩, hb⟩
  exact ⟨g, c, rfl, h, hb⟩
theorem call_nil_all (name : Bs) (w : World) : Calls Tryz.prog 9 #[.string ⟨name.toArray⟩, .slice none 0 0] w fun x w' => ∃ (r c : Int) (A : Option Addr) (n m : Nat), x = .returned (.tuple #[.agg #[.int .i64 r, .int .i64 c, .slice A n m], .bool (decide (name ∈ names12))]) ∧ Below w.heap.size w w' := by
  by_cases h : name ∈ names12
  · refine (call_nil_s name h w).mono ?_
    rintro x w' ⟨g, c, rfl, _, hb⟩
    exact ⟨1, 1, _, _, _, by rw [decide_eq_true h], hb⟩
  · refine (call_nil_gone name h w).mono ?_
    rintro x w' ⟨rfl, hb⟩
    exact ⟨0, 0, _, _, _, by rw [decide_eq_false h], hb⟩
theorem taken_succ (name : Bs) (k : Nat) (hk : k < names12.length) : decide (name ∈ names12.take (k + 1)) = (decide (name ∈ names12.take k) || decide (names12[k] = name)) := by
  rw [List.take_succ_eq_append_getElem hk]
  generalize names12.take k = q
  generalize names12[k] = p
  by_cases h1 : name ∈ q
  · simp [h1]
  · by_cases h2 : p = name
    · simp [h2]
    · simp [h1, h2, Ne.symm h2]
set_option maxRecDepth 100000 in
set_option maxHeartbeats 6400000 in
theorem names12_any (t : Bs) (w : World) (hP : PowTab w) (hM : MaxVar w) :
    Calls Tryz.prog 7 #[.string ⟨t.toArray⟩] w fun e w' => e = .returned (.bool true) ∧ Below w.heap.size w w' := by
  have CA := Lib.hid (awake12_any w hP hM)
  have CN := Lib.hid names_any
  have CR := Lib.hid rnames_any
  have CL := Lib.hid (call_nil_all t)
  have HT := Lib.hid (taken_succ t)
  have HT0 : Hid (decide (t ∈ names12.take 0) = false) := Lib.hid (by simp)
  have HT15 : Hid (names12.take 15 = names12) := Lib.hid rfl
  have HLn : Hid (names12.length = 15) := Lib.hid rfl
  have CC := Lib.hid (fun k (h : k < names12.length) W => call_nil_s names12[k] (List.getElem_mem h) W)
  generalize names12 = N at *
  clear hP hM
  go_enter Tryz.func7, Tryz.ntmps7
  go_wp2_with fail
  refine CA.out.mono ?_
  rintro x w0 ⟨rfl, hb⟩
  have HB0 := Lib.hid hb
  clear hb CA
  by_cases ht : 100 < t.length
  · have ht' : (100 : Int) < (t.length : Int) := by omega
    go_wp2_with fail
    go_ret
    exact ⟨rfl, HB0.out⟩
  · have ht' : (t.length : Int) ≤ 100 := by omega
    clear ht
    go_wp2_with fail
    refine (CN.out _).mono ?_
    rintro x w1 ⟨gl, cl, rfl, hl, hb⟩
    have HB1 := Lib.hid (HB0.out.trans (hb.mono HB0.out.size))
    have HL1 := Lib.hid hl
    clear hb hl HB0
    go_wp2_with fail
    refine (CR.out _).mono ?_
    rintro x w2 ⟨gw, cw, rfl, hw, hb⟩
    have HB2 := Lib.hid (HB1.out.trans (hb.mono HB1.out.size))
    have HL2 := Lib.hid (HL1.out.next hb)
    have HW2 := Lib.hid hw
    clear hb hw HB1 HL1 CR CN
    go_wp2_with fail
    go_loopw [5, 6] (fun v5 v6 wx => ∃ k : Nat, v6 = .int .i64 (k : Int) ∧ v5 = .bool (decide (t ∈ N.take k)) ∧ k ≤ 15 ∧ Hid (Below w2.heap.size w2 wx)) (fun _ v6 _ => 15 - (intOf v6).toNat)
    case atStart => exact ⟨0, rfl, by rw [HT0.out], Nat.zero_le _, Lib.hid (Below.refl _ _)⟩
    case round =>
      obtain ⟨k, rfl, rfl, hk, hb2⟩ := hrel
      by_cases hlt : k < 15
      · have hkN : k < N.length := by rw [HLn.out]; exact hlt
        have c0 : wr.cell? ⟨gl, k, none⟩ = some (.string ⟨N[k].toArray⟩) := (hb2.out.cell (p := ⟨gl, k, none⟩) HL2.out.1).trans (HL2.out.2 k hkN)
        have HTk := Lib.hid (HT.out k hkN)
        have HWk : Hid (w2.cell? ⟨gw, k, none⟩ = some (.string ⟨N[k].toArray⟩)) := Lib.hid (HW2.out.cell k hkN)
        have HLk : Hid (w2.cell? ⟨gl, k, none⟩ = some (.string ⟨N[k].toArray⟩)) := Lib.hid (HL2.out.2 k hkN)
        have CK := Lib.hid (CC.out k hkN)
        generalize N[k] = p at *
        generalize decide (t ∈ N.take k) = d at *
        generalize hd1 : decide (t ∈ N.take (k + 1)) = d1 at *
        go_wp2_with fail
        refine (CK.out _).mono ?_
        rintro x w3 ⟨g3, c3, rfl, hv, hb⟩
        have HB3 := Lib.hid (hb2.out.trans (hb.mono hb2.out.size))
        have HV3 := Lib.hid hv
        clear hb hv CK c0 hb2
        go_upto_region 13 with fail
        have HX3 := Lib.hid (Lies.new w3 25 #[.int .i64 1, .int .i64 1, .slice (some ⟨g3, 0, none⟩) 1 c3])
        have HB4 := Lib.hid (HB3.out.alloc HB3.out.size (.cells #[.int .i64 1, .int .i64 1, .slice (some ⟨g3, 0, none⟩) 1 c3] 25))
        have HV4 := Lib.hid (HV3.out.next ((Below.refl _ w3).alloc (Nat.le_refl _) (.cells #[.int .i64 1, .int .i64 1, .slice (some ⟨g3, 0, none⟩) 1 c3] 25)))
        generalize w3.alloc (.cells #[.int .i64 1, .int .i64 1, .slice (some ⟨g3, 0, none⟩) 1 c3] 25) = W3 at *
        generalize w3.heap.size = b3 at *
        clear HB3 HV3
        have y0 := HX3.out.cell 0
        have y1 := HX3.out.cell 1
        have y2 := HX3.out.cell 2
        simp only [List.getElem?_toArray, List.getElem?_cons_zero, List.getElem?_cons_succ] at y0 y1 y2
        have z0 : W3.cell? ⟨gl, k, none⟩ = some (.string ⟨p.toArray⟩) := (HB4.out.cell (p := ⟨gl, k, none⟩) HL2.out.1).trans HLk.out
        have z1 : W3.cell? ⟨gw, k, none⟩ = some (.string ⟨p.toArray⟩) := (HB4.out.cell (p := ⟨gw, k, none⟩) HW2.out.lt).trans HWk.out
        have q0 : gl < W3.heap.size := Nat.lt_of_lt_of_le HL2.out.1 HB4.out.size
        have q1 : gw < W3.heap.size := Nat.lt_of_lt_of_le HW2.out.lt HB4.out.size
        have q2 := HX3.out.lt
        have HSn : Hid (∀ wa, Below W3.heap.size W3 wa → wa.cell? ⟨gl, k, none⟩ = some (.string ⟨p.toArray⟩) ∧ wa.cell? ⟨gw, k, none⟩ = some (.string ⟨p.toArray⟩) ∧ wa.cell? ⟨b3, 0, none⟩ = some (.int .i64 1) ∧ wa.cell? ⟨b3, 1, none⟩ = some (.int .i64 1) ∧ wa.cell? ⟨b3, 2, none⟩ = some (.slice (some ⟨g3, 0, none⟩) 1 c3) ∧ Below W3.heap.size W3 wa) := Lib.hid (fun wa h => ⟨(h.cell (p := ⟨gl, k, none⟩) q0).trans z0, (h.cell (p := ⟨gw, k, none⟩) q1).trans z1, (h.cell (p := ⟨b3, 0, none⟩) q2).trans y0, (h.cell (p := ⟨b3, 1, none⟩) q2).trans y1, (h.cell (p := ⟨b3, 2, none⟩) q2).trans y2, h⟩)
        have HSD : Hid (W3.drew.cell? ⟨gl, k, none⟩ = some (.string ⟨p.toArray⟩) ∧ W3.drew.cell? ⟨gw, k, none⟩ = some (.string ⟨p.toArray⟩) ∧ W3.drew.cell? ⟨b3, 0, none⟩ = some (.int .i64 1) ∧ W3.drew.cell? ⟨b3, 1, none⟩ = some (.int .i64 1) ∧ W3.drew.cell? ⟨b3, 2, none⟩ = some (.slice (some ⟨g3, 0, none⟩) 1 c3) ∧ Below W3.heap.size W3 W3.drew) := Lib.hid ⟨z0, z1, y0, y1, y2, (Below.refl _ _).drew⟩
        have HF3 := Lib.hid (fun wa (h : Below W3.heap.size W3 wa) => HV4.out.next h)
        have HBx : Hid (Below W3.heap.size W3 W3.drew) := Lib.hid (Below.refl _ _).drew
        have CB := Lib.hid (fun W => bad09_n W)
        have CS := Lib.hid (fun W g1 c1 g2 c2 h1 h2 => rsame09_s (vBad 2) g1 c1 g2 c2 W h1 h2)
        clear y0 y1 y2 z0 z1 q0 q1 q2
        go_region_held3 (fun w' => w'.cell? ⟨gl, k, none⟩ = some (.string ⟨p.toArray⟩) ∧ w'.cell? ⟨gw, k, none⟩ = some (.string ⟨p.toArray⟩) ∧ w'.cell? ⟨b3, 0, none⟩ = some (.int .i64 1) ∧ w'.cell? ⟨b3, 1, none⟩ = some (.int .i64 1) ∧ w'.cell? ⟨b3, 2, none⟩ = some (.slice (some ⟨g3, 0, none⟩) 1 c3) ∧ Below W3.heap.size W3 w')
          (first | exact HSD.out | exact HSn.out _ (Below.refl _ _) | exact HSn.out _ (Below.refl _ _).drew | exact HSn.out _ (Below.trans (Below.refl _ _).drew hb) | (go_split_ands; exact HSn.out _ (Below.trans (by assumption) (Below.mono hb (Below.size (by assumption))))))
          (first
            | (go_at_call 13; (with_reducible refine (CB.out _).mono ?_); rintro e wx ⟨gd, cd, rfl, hvd, hb⟩; have HBx : Hid (Below W3.heap.size W3 wx) := Lib.hid (by first | exact Below.trans (Below.refl _ _).drew hb | (go_split_ands; exact Below.trans (by assumption) (Below.mono hb (Below.size (by assumption))))); have HVd := Lib.hid hvd)
            | (go_at_call 12; (with_reducible refine (CS.out _ _ _ _ _ (HF3.out _ HBx.out) HVd.out).mono ?_); rintro e wx ⟨rfl, hb⟩))
        all_goals have HB6 : Hid (Below w2.heap.size w2 wx) := Lib.hid (HB4.out.trans (Below.mono (by first | assumption | (go_split_ands; assumption)) HB4.out.size))
        all_goals clear HSn HSD HF3 HBx CB CS
        all_goals by_cases hpt : p = t
        all_goals rcases d with _ | _
        all_goals first
          | (have hq : (p == t) = true := by rw [hpt]; exact beq_self_eq_true _
             go_wp2_with fail
             go_roundw
             case rel => exact ⟨k + 1, by go_num, by rw [hd1, HTk.out, decide_eq_true hpt]; rfl, by omega, HB6⟩
             case measure => simp [intOf]; omega)
          | (have hq : (p == t) = false := by simpa using hpt
             go_wp2_with fail
             go_roundw
             case rel => exact ⟨k + 1, by go_num, by rw [hd1, HTk.out, decide_eq_false hpt]; rfl, by omega, HB6⟩
             case measure => simp [intOf]; omega)
      · obtain rfl : k = 15 := by omega
        have HB6 := Lib.hid (HB2.out.trans (hb2.out.mono HB2.out.size))
        go_wp2_with fail
        refine (CL.out _).mono ?_
        rintro x w7 ⟨r, c, A, n, m, rfl, hb⟩
        have HB7 := Lib.hid (HB6.out.trans (hb.mono HB6.out.size))
        rw [HT15.out]
        clear hb hb2
        generalize decide (t ∈ N) = d at *
        go_wp2_with fail
        all_goals go_ret
        all_goals exact ⟨by cases d <;> rfl, HB7.out.alloc HB7.out.size _⟩
end Go.Proofs.YtpdaloohgfnbhaaGreatDoor
