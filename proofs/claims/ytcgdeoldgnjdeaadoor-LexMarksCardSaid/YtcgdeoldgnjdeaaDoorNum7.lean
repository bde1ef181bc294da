/-
  num.cut: what it returns.
-/
import Derived.Test.YtcgdeoldgnjdeaaDoorNum4
import Derived.Test.YtcgdeoldgnjdeaaDoorPl1
import Derived.ArgAppend
namespace Go.Proofs.YtcgdeoldgnjdeaaDoor
open Go.RowKit

/-- a row of digits that may be written -/
def BRow (w : World) (b off : Nat) (L : List Nat) : Prop := ∀ j (h : j < L.length), w.cell? ⟨b, off + j, none⟩ = some (byteV L[j]) ∧ w.frozen? ⟨b, off + j, none⟩ = false
theorem BRow.set {w : World} {b off : Nat} {L : List Nat} (h : BRow w b off L) (k c : Nat) : BRow (w.setCell ⟨b, off + k, none⟩ (byteV c)) b off (L.set k c) := by
  intro j hj
  rw [List.length_set] at hj
  obtain ⟨h1, h2⟩ := h j hj
  by_cases e : k = j
  · subst e
    refine ⟨?_, by simpa using h2⟩
    rw [World.cell?_setCell_same' _ _ _ (by rw [h1]; rfl)]
    simp
  · refine ⟨?_, by simpa using h2⟩
    rw [World.cell?_setCell_other _ _ _ _ (by intro e2; injection e2 with e3 e4; omega), h1]
    rw [List.getElem_set_ne e]
theorem BRow.take {w : World} {b off : Nat} {L : List Nat} (h : BRow w b off L) (n : Nat) : BRow w b off (L.take n) := by
  intro j hj
  rw [List.length_take] at hj
  have := h j (by omega)
  rw [List.getElem_take]
  exact this
theorem BRow.drop {w : World} {b off : Nat} {L : List Nat} (h : BRow w b off L) (n : Nat) : BRow w b (off + n) (L.drop n) := by
  intro j hj
  rw [List.length_drop] at hj
  have := h (n + j) (by omega)
  rw [List.getElem_drop, Nat.add_assoc]
  exact this
theorem BRow.sl {w : World} {b off base cap : Nat} {L : List Nat} (h : BRow w b off L) (h1 : base ≤ b) (h2 : b < w.heap.size) (h3 : L.length ≤ cap) (h4 : cap ≤ maxLen) : BSl w base (some ⟨b, off, none⟩) cap L := ⟨h3, h4, fun _ => ⟨b, off, rfl, h1, h2, h⟩⟩
/-- digits that the call owns, in a row of their own -/
theorem own_sl {w : World} {base B : Nat} {v : Value} {ds : List Nat} (h : w.ownsRow B 5 1 v ds.length (ds.map byteV)) (hB : base ≤ B) (h0 : 0 < ds.length) : ∃ g cap, v = .slice (some ⟨g, 0, none⟩) ds.length cap ∧ BSl w base (some ⟨g, 0, none⟩) cap ds ∧ BRow w g 0 ds := by
  rcases h.2 with ⟨_, h1⟩ | ⟨g, cap, cur, rfl, hg, hh, hnc, hcm, hcs, ht⟩
  · omega
  · have hrow : BRow w g 0 ds := by
      intro j hj
      have hl : Lies w g 5 cur := hh
      refine ⟨?_, hl.frozen _⟩
      rw [hl.cell, Nat.zero_add]
      have h2 : (cur.toList.take (ds.length * 1))[j]? = (ds.map byteV)[j]? := by rw [ht]
      rw [Nat.mul_one, List.getElem?_take_of_lt hj, List.getElem?_map, List.getElem?_eq_getElem hj] at h2
      simpa using h2
    have hlt : g < w.heap.size := (Array.getElem?_eq_some_iff.1 hh).1
    exact ⟨g, cap, rfl, hrow.sl (by omega) hlt hnc hcm, hrow⟩
/-- what cut leaves -/
def CutPost (b base n : Nat) (ds : List Nat) (w : World) (e : Ending) (w' : World) : Prop :=
  ∃ A cap ds', e = .returned (.slice A ds'.length cap) ∧ BSl w' base A cap ds' ∧ Dig ds' ∧ natOf ds' = rhe (natOf ds) (ds.length - n) ∧ (Lead ds → Lead ds') ∧ ds'.length ≤ n + 1 ∧ Kept b w.heap.size w w' ∧ (∀ a, A = some a → a.block = b ∨ w.heap.size ≤ a.block)
theorem cutPost_mk {b base n : Nat} {ds : List Nat} {w w' : World} (A : Option Addr) (cap m : Nat) (ds' : List Nat) (hm : m = ds'.length) (h1 : BSl w' base A cap ds') (h2 : Dig ds') (h3 : natOf ds' = rhe (natOf ds) (ds.length - n)) (h4 : Lead ds → Lead ds') (h5 : ds'.length ≤ n + 1) (h6 : Kept b w.heap.size w w') (h7 : ∀ a, A = some a → a.block = b ∨ w.heap.size ≤ a.block) :
    CutPost b base n ds w (.returned (.slice A m cap)) w' := ⟨A, cap, ds', by rw [hm], h1, h2, h3, h4, h5, h6, h7⟩
theorem Kept.of_below {b base : Nat} {w w' : World} (h : Below base w w') : Kept b base w w' := ⟨h.os, h.tape, h.output, h.size, fun k hk _ => h.block k hk⟩
theorem Kept.drewN {b base : Nat} (w : World) (q : Nat) : Kept b base w (w.drewN q) := Kept.of_below (below_drewN (Below.refl _ _) q)
theorem at_b {b off : Nat} {B : Nat} : ∀ a : Addr, some (⟨b, off, none⟩ : Addr) = some a → a.block = b ∨ B ≤ a.block := fun a h => by injection h with h; subst h; exact .inl rfl
theorem at_new {b g off : Nat} {B : Nat} (hg : B ≤ g) : ∀ a : Addr, some (⟨g, off, none⟩ : Addr) = some a → a.block = b ∨ B ≤ a.block := fun a h => by injection h with h; subst h; exact .inr hg
theorem bare_at (A : Option Addr) (cap base m : Nat) (ds : List Nat) (w : World) (hm : ds.length = m) (h : BSl w base A cap ds) :
    Calls Tryd.prog 139 #[.slice A m cap] w fun e w' => BarePost A base ds w e w' := by subst hm; exact bare_any A cap base ds w h
set_option maxRecDepth 100000 in
set_option maxHeartbeats 3200000 in
theorem cut_any (b off cap base n : Nat) (ds : List Nat) (w : World) (hr : BRow w b off ds) (hb1 : base ≤ b) (hb2 : b < w.heap.size) (hcap : ds.length ≤ cap) (hcm : cap ≤ maxLen) (hn15 : n ≤ 100000) (hn : n < ds.length) (hd : Dig ds) :
    Calls Tryd.prog 140 #[.slice (some ⟨b, off, none⟩) ds.length cap, .int .i64 (n : Int)] w fun e w' => CutPost b base n ds w e w' := by
  have HCM := Lib.hid hcm
  clear hcm
  have HR := Lib.hid hr
  have HD := Lib.hid hd
  have hcn : n < cap := by omega
  have x0 := (hr n hn).1
  unfold byteV at x0
  have hx9 : ds[n] ≤ 9 := hd _ (List.getElem_mem hn)
  have hS : ds = ds.take n ++ ds[n] :: ds.drop (n + 1) := by
    rw [← List.drop_eq_getElem_cons hn, List.take_append_drop]
  have hlen : (ds.drop (n + 1)).length + 1 = ds.length - n := by rw [List.length_drop]; omega
  have hV : rhe (natOf ds) (ds.length - n) = natOf (ds.take n) + (if upB (ds.take n) ds[n] (ds.drop (n + 1)) then 1 else 0) := by
    rw [← hlen]
    have := rhe_digits (ds.take n) ds[n] (ds.drop (n + 1)) (by rw [← List.drop_eq_getElem_cons hn]; exact hd.drop n)
    rw [← hS] at this
    exact this
  have HV := Lib.hid hV
  have hbare := Lib.hid (fun W => bare_any (if cap - n = 1 then some ⟨b, off + n, none⟩ else some ⟨b, off + n + 1, none⟩) (cap - n - 1) base (ds.drop (n + 1)) W)
  have hU : upB (ds.take n) ds[n] (ds.drop (n + 1)) = (decide (5 < ds[n]) || (decide (ds[n] = 5) && (decide (0 < (bareL (ds.drop (n + 1))).length) || decide (natOf (ds.take n) % 2 = 1)))) := rfl
  have HU := Lib.hid hU
  generalize hx : ds[n] = x at *
  clear hS hlen hV hU hr hd hx
  go_enter Tryd.func140, Tryd.ntmps140
  go_wp2_with fail
  go_quiet (fail)
  generalize hc2 : cap - n = c2
  have HC2 := Lib.hid hc2
  clear hc2
  go_upto_if 23 with fail
  go_cut [7] (fun v wx => v = .bool (upB (ds.take n) x (ds.drop (n + 1))) ∧ ∃ q, wx = w.drewN q)
  case first =>
    by_cases h5 : x = 5
    · subst h5
      have hsl : ∀ q, Hid (BSl (w.drewN q) base (if c2 = 1 then some ⟨b, off + n, none⟩ else some ⟨b, off + n + 1, none⟩) (c2 - 1) (ds.drop (n + 1))) := fun q => Lib.hid (by
        have hl : (ds.drop (n + 1)).length = ds.length - (n + 1) := List.length_drop
        have := HC2.out
        refine ⟨by omega, by have := HCM.out; omega, fun hp => ?_⟩
        rw [if_neg (by omega)]
        exact ⟨b, off + n + 1, rfl, hb1, hb2, HR.out.drop (n + 1)⟩)
      have HL : Hid ((ds.drop (n + 1)).length = ds.length - n - 1) := Lib.hid (by rw [List.length_drop]; omega)
      rcases Classical.em (c2 = 1) with rfl | hc1
      all_goals
        first | simp only [if_true] at hsl | simp only [hc1, if_false] at hsl
        go_wp2_with fail
        refine (bare_at _ _ base _ (ds.drop (n + 1)) _ HL.out (hsl _).out).mono ?_
        rintro e w' ⟨A2, cap2, rfl, -, rfl, -⟩
        clear hsl HL hbare
        generalize (bareL (ds.drop (n + 1))).length = m at *
        by_cases hm : 0 < m
        · go_wp2_with fail
          go_meet
          refine ⟨?_, _, rfl⟩
          rw [HU.out]
          simp [hm]
        · have hm0 : m = 0 := by omega
          subst hm0
          clear hm
          cases n with
          | zero =>
            go_wp2_with fail
            go_meet
            refine ⟨?_, _, rfl⟩
            rw [HU.out]
            rfl
          | succ k =>
            have y0 := (HR.out k (by omega)).1
            unfold byteV at y0
            have hodd : Hid (natOf (ds.take (k + 1)) % 2 = ds[k] % 2) := Lib.hid (by
              have h1 : k + 1 = (ds.take (k + 1)).length := by rw [List.length_take]; omega
              rw [last_odd (ds.take (k + 1)) k h1, List.getElem_take])
            have hy9 : ds[k] ≤ 9 := HD.out _ (List.getElem_mem _)
            generalize ds[k] = y at *
            go_wp2_with fail
            go_meet
            refine ⟨?_, _, rfl⟩
            rw [HU.out, hodd.out]
            congr 1
            rw [Bool.eq_iff_iff]
            simp
            omega
    · have b5 : ((x : Int) == 5) = false := by rw [beq_eq_false_iff_ne]; omega
      go_wp2_with fail
      go_meet
      refine ⟨?_, _, rfl⟩
      rw [HU.out]
      congr 1
      rw [Bool.eq_iff_iff]
      simp [h5]
      omega
  case rest =>
    obtain ⟨rfl, q, rfl⟩ := hcut
    generalize upB (ds.take n) x (ds.drop (n + 1)) = u at *
    cases u
    · rw [if_neg (by decide)] at HV
      go_wp2_with fail
      go_ret
      exact cutPost_mk _ n n (ds.take n) (by rw [List.length_take]; omega) ((HR.out.take n).sl hb1 hb2 (by rw [List.length_take]; omega) (by unfold maxLen; omega)) (HD.out.take n) (by rw [HV.out]; rfl) (fun h => h.take n) (by rw [List.length_take]; omega) (Kept.drewN _ _) at_b
    · rw [if_pos rfl] at HV
      have HH : Hid ((ds.take n).length = n) := Lib.hid (by rw [List.length_take]; omega)
      have HT : Hid (BRow w b off (ds.take n)) := Lib.hid (HR.out.take n)
      have HDT : Hid (Dig (ds.take n)) := Lib.hid (HD.out.take n)
      have HLd : Hid (Lead ds → Lead (ds.take n)) := Lib.hid (fun h => h.take n)
      clear HU hbare x0 hx9 HR HD
      generalize ds.take n = H at *
      go_wp2_with fail
      go_loopw [8] (fun i wr => ∃ (k : Nat) (z : Int), i = .int .i64 z ∧ Hid (z = (k : Int) - 1) ∧ k ≤ n ∧ Hid (Nines H k) ∧ Hid (BRow wr b off (inc H k)) ∧ Hid (Kept b w.heap.size w wr) ∧ b < wr.heap.size) (fun i _ => (intOf i + 1).toNat)
      case atStart => exact ⟨n, (n : Int) - 1, rfl, Lib.hid rfl, Nat.le_refl _, Lib.hid (by rw [← HH.out]; exact Nines.all H), Lib.hid (by rw [← HH.out, inc_all]; exact HT.out), Lib.hid (Kept.drewN _ _), hb2⟩
      case round =>
        obtain ⟨k, z, rfl, hz, hk, hnine, hrow, hbel, hbw⟩ := hrel
        cases k with
        | zero =>
          obtain rfl : z = -1 := by have := hz.out; omega
          have hO := Lib.hid (inc_over H hnine.out)
          have hI : inc H 0 = List.replicate n 0 := by unfold inc; rw [HH.out]; simp
          rw [hI] at hrow
          rw [HH.out] at hO
          clear hI hnine hz hk
          cases n with
          | zero =>
            go_wp2_with fail
            go_ret
            have hrow1 : BRow (wr.alloc (.cells #[.int .u8 1] 5)) wr.heap.size 0 [1] := by
              intro j hj
              have hl := Lies.new wr 5 #[.int .u8 1]
              refine ⟨?_, hl.frozen _⟩
              rw [hl.cell]
              match j, hj with
              | 0, _ => rfl
            exact cutPost_mk _ 1 1 [1] rfl (hrow1.sl (Nat.le_trans hb1 (Nat.le_of_lt hbw)) (by simp) (Nat.le_refl _) (by decide)) (Dig.cons (by decide) (fun _ h => by cases h)) (by rw [HV.out, ← hO.out]; rfl) (fun _ d t h => by injection h with h1 _; omega) (by simp) (hbel.out.alloc hbel.out.size _) (at_new hbel.out.size)
          | succ q =>
            obtain ⟨i0, hi, hz0, hz1, hz2⟩ := info_parts infoU8
            have y0 := (hrow.out 0 (by simp)).1
            have y1 := (hrow.out 0 (by simp)).2
            simp only [Nat.add_zero] at y0 y1
            simp [byteV] at y0
            have hF := Lib.hid (hrow.out.set 0 1)
            have hR : (List.replicate (q + 1) 0).set 0 1 = 1 :: List.replicate q 0 := rfl
            rw [hR] at hF
            have hb1' : byteV 1 = .int .u8 1 := rfl
            rw [hb1', Nat.add_zero] at hF
            clear hR hb1' hrow
            go_wp2_with (at_builtin; refine wpList_append_grows _ rfl (.tmp 71) (.tmp 72) 36 rfl 5 i0 (.int .u8 0) 1 1 Tryd.underlying36 hi hz0 hz1 hz2 rfl (by decide) (some ⟨b, off, none⟩) (q + 1) (q + 1) ((1 :: List.replicate q 0).map byteV) rfl (fun h => by cases h) (by simp) ?olds ⟨wr.heap.size, 0, none⟩ 1 1 [byteV 0] rfl rfl ?c1 ?c2 (by omega) ?c3 ?c4 ?_)
            case olds =>
              intro ad e j u hu
              injection e with e
              subst e
              rw [List.getElem?_map] at hu
              have hj : j < (1 :: List.replicate q 0).length := by
                rcases Nat.lt_or_ge j (1 :: List.replicate q 0).length with g | g
                · exact g
                · rw [List.getElem?_eq_none g] at hu; cases hu
              rw [List.getElem?_eq_getElem hj] at hu
              have h1 := (hF.out j hj).1
              have h2 : u = byteV (1 :: List.replicate q 0)[j] := by simpa using hu.symm
              rw [h2, ← h1]
              have ea : (⟨b, off, none⟩ : Addr).add j = ⟨b, off + j, none⟩ := by
                unfold Addr.add
                by_cases e0 : j = 0
                · subst e0; simp
                · simp [e0]
              rw [ea]
              exact World.cell?_alloc_past _ _ _ (by simpa using hbw)
            case c1 => exact fun j u hj => one_cell _ _ _ _ j u (by simp) hj
            case c2 => intro u hu; simp at hu; subst hu; rfl
            case c3 => unfold maxLen; omega
            case c4 => omega
            intro v' w2 hown hgrow
            have hO2 : w2.ownsRow ((wr.setCell ⟨b, off, none⟩ (.int .u8 1)).alloc (.cells #[.int .u8 0] 5)).heap.size 5 1 v' (1 :: List.replicate q 0 ++ [0]).length ((1 :: List.replicate q 0 ++ [0]).map byteV) := by
              simpa using hown
            obtain ⟨g, cap2, rfl, hsl, -⟩ := own_sl (base := base) hO2 (by simp; omega) (by simp)
            have HG : Hid (wr.heap.size ≤ g) := Lib.hid (by have := own_ge hO2 g rfl; simp at this; omega)
            have HSL := Lib.hid hsl
            have HB2 : Hid (Kept b w.heap.size w w2) := Lib.hid (((hbel.out.put off _).alloc (by simpa using hbel.out.size) _).grown hgrow (by have := hbel.out.size; simp; omega) (fun k h => by cases h))
            clear hown hgrow hO2 hsl
            go_wp2_with fail
            go_ret
            refine cutPost_mk _ cap2 _ (1 :: List.replicate q 0 ++ [0]) rfl HSL.out ?_ ?_ ?_ (by simp) HB2.out (at_new (by have := hbel.out.size; have := HG.out; omega))
            · exact (Dig.cons (by decide) (Dig.zeros q)).append (Dig.cons (by decide) (fun _ h => by cases h))
            · rw [HV.out, ← hO.out, List.cons_append, ← List.replicate_succ']
            · intro _ d t h
              injection h with h1 _
              omega
        | succ m =>
          obtain rfl : z = (m : Int) := by have := hz.out; omega
          have hmn : m < H.length := by rw [HH.out]; omega
          have hil := inc_len H (m + 1) (by omega)
          have y0 := (hrow.out m (by omega)).1
          have y1 := (hrow.out m (by omega)).2
          rw [inc_get H m hmn (by omega)] at y0
          unfold byteV at y0
          have hy9 : H[m] ≤ 9 := HDT.out _ (List.getElem_mem _)
          have hmn2 : m < n := by omega
          by_cases h9 : H[m] < 9
          · have hE : Hid (byteV (H[m] + 1) = .int .u8 ((H[m] : Int) + 1)) := Lib.hid (by unfold byteV; congr 1)
            have hF := Lib.hid (hrow.out.set m (H[m] + 1))
            rw [inc_set H m _ hmn, hE.out] at hF
            have hN := Lib.hid (inc_up H m hmn hnine.out)
            have hD2 : Hid (Dig (H.take m ++ (H[m] + 1) :: List.replicate (H.length - (m + 1)) 0)) := Lib.hid ((HDT.out.take m).append (Dig.cons (by omega) (Dig.zeros _)))
            have hL2 : Hid (Lead ds → Lead (H.take m ++ (H[m] + 1) :: List.replicate (H.length - (m + 1)) 0)) := Lib.hid (fun h => (HLd.out h).up m hmn _)
            have hlen : Hid ((H.take m ++ (H[m] + 1) :: List.replicate (H.length - (m + 1)) 0).length = n) := Lib.hid (by simp; have := HH.out; omega)
            generalize H.take m ++ (H[m] + 1) :: List.replicate (H.length - (m + 1)) 0 = R at *
            generalize H[m] = y at *
            clear hil hnine
            go_wp2_with fail
            go_ret
            exact cutPost_mk _ n n R hlen.out.symm (hF.out.sl hb1 (by simpa using hbw) (by rw [hlen.out]; omega) (by unfold maxLen; omega)) hD2.out (by rw [HV.out, hN.out]) hL2.out (by rw [hlen.out]; omega) (hbel.out.put (off + m) _) at_b
          · have h9' : H[m] = 9 := by omega
            have hF := Lib.hid (hrow.out.set m 0)
            rw [inc_down H m hmn] at hF
            have hN2 : Hid (Nines H m) := Lib.hid (hnine.out.down hmn h9')
            generalize H[m] = y at *
            subst h9'
            clear hil hnine h9 hy9
            go_wp2_with fail
            go_roundw
            case rel => exact ⟨m, (m : Int) - 1, rfl, Lib.hid rfl, by omega, hN2, hF, Lib.hid (hbel.out.put (off + m) _), by simpa using hbw⟩
            case measure => simp [intOf]
end Go.Proofs.YtcgdeoldgnjdeaaDoor
