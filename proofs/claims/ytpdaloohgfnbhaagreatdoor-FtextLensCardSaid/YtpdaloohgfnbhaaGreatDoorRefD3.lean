/-
  counterpaneref01.wide, less, Neg, level, Plus: what they return; the digit steps of adding and taking away.
-/
import Derived.Test.YtpdaloohgfnbhaaGreatDoorRefA3
import Derived.Test.YtpdaloohgfnbhaaGreatDoorRefA6
import Derived.Test.YtpdaloohgfnbhaaGreatDoorPlainW
namespace Go.Proofs.YtpdaloohgfnbhaaGreatDoor
open Go.RowKit

theorem ISl.src {w : World} {A : Option Addr} {cap : Nat} {L : List Nat} (h : ISl w 0 A cap L) : Src w A (L.map intV) := by
  rcases Nat.eq_zero_or_pos L.length with z | z
  · rw [List.eq_nil_of_length_eq_zero z]
    exact Src.nil _ _
  · obtain ⟨b, off, hA, _, _, hr⟩ := h.2.2 z
    rw [hA]
    exact IRow.src hr
theorem ISl.far {w : World} {A : Option Addr} {cap : Nat} {L : List Nat} (h : ISl w 0 A cap L) : 0 < L.length → ∀ ad, A = some ad → ad.block < w.heap.size := by
  intro hp ad e
  obtain ⟨b, off, hA, _, hb, _⟩ := h.2.2 hp
  rw [hA] at e
  injection e with e
  subst e
  exact hb
theorem Src.keep' {w w' : World} {A : Option Addr} {L : List Nat} {cap : Nat} (h : ISl w 0 A cap L) (hb : Below w.heap.size w w') : Src w' A (L.map intV) := by
  rcases Nat.eq_zero_or_pos L.length with z | z
  · rw [List.eq_nil_of_length_eq_zero z]
    exact Src.nil _ _
  · exact h.src.keep (h.far z) hb
set_option maxRecDepth 100000 in
set_option maxHeartbeats 3200000 in
theorem wide_any (A : Option Addr) (cap : Nat) (L : List Nat) (k : Nat) (w : World) (hs : ISl w 0 A cap L) (hl : L.length ≤ 2000) (hk : k ≤ 2000) :
    Calls Tryz.prog 83 #[.slice A L.length cap, .int .i64 (k : Int)] w fun e w' => ∃ v, e = .returned v ∧ Own w' w.heap.size v (L ++ List.replicate k 0) ∧ Below w.heap.size w w' := by
  obtain ⟨i0, hi, hz0, hz1, hz2⟩ := info_parts infoI64
  have HS := Lib.hid hs
  clear hs
  have HE : Hid ((w.alloc (.cells #[] 3)).ownsRow w.heap.size 3 1 (.slice (some ⟨w.heap.size, 0, none⟩) 0 0) 0 []) := Lib.hid ⟨rfl, .inr ⟨w.heap.size, 0, #[], rfl, Nat.le_refl _, Lies.new _ _ _, Nat.le_refl _, by decide, rfl, rfl⟩⟩
  have HSrc : Hid (Src (w.alloc (.cells #[] 3)) A (L.map intV)) := Lib.hid (Src.keep' HS.out ((Below.refl _ _).alloc (Nat.le_refl _) _))
  go_enter Tryz.func83, Tryz.ntmps83
  go_wp2_with (at_builtin; refine wpList_append_src _ rfl (.tmp 7) (.tmp 8) 57 rfl w.heap.size 3 i0 (.int .i64 0) 8 Tryz.underlying57 hi hz0 hz1 hz2 rfl (.slice (some ⟨w.heap.size, 0, none⟩) 0 0) 0 [] rfl HE.out A L.length cap (L.map intV) rfl (by simp) HSrc.out (ints_one L) ?c3 ?c4 ?c5 ?_)
  case c3 => unfold maxLen; omega
  case c4 => omega
  case c5 => simp
  intro v' w1 hown1 hg1 _
  have HO : Hid (Own w1 w.heap.size v' L) := Lib.hid (by simpa [Own] using hown1)
  have HB : Hid (Below w.heap.size w w1) := Lib.hid (((Below.refl _ w).alloc (Nat.le_refl _) _).grown hg1 (by simp) (fun j h => by simp [Value.ownBlock] at h; omega))
  clear hown1 hg1 HE HSrc HS
  go_wp2_with fail
  go_loopw [5, 6] (fun v i wr => ∃ j : Nat, i = .int .i64 j ∧ j ≤ k ∧ Hid (Own wr w.heap.size v (L ++ List.replicate j 0)) ∧ Hid (Below w.heap.size w wr)) (fun _ i _ => k - (intOf i).toNat)
  case atStart => exact ⟨0, rfl, Nat.zero_le _, by simpa using HO, HB⟩
  case round =>
    obtain ⟨j, rfl, hj, hO, hb⟩ := hrel
    obtain ⟨A2, c2, rfl, -, -⟩ := hO.out.slice
    have hln : (L ++ List.replicate j 0).length ≤ 4000 := by simp; omega
    by_cases hlt : j < k
    · have hO2 := Lib.hid hO.out
      unfold Own at hO2
      have hsn : L ++ List.replicate (j + 1) 0 = (L ++ List.replicate j 0) ++ [0] := by rw [List.replicate_succ', List.append_assoc]
      have HSn := Lib.hid hsn
      clear hsn hO
      generalize L ++ List.replicate j 0 = D at *
      have hlt2 : (j : Int) < (k : Int) := by omega
      go_wp2_with (at_builtin; refine wpList_append_own _ rfl (.tmp 15) (.tmp 16) 57 rfl w.heap.size 3 i0 (.int .i64 0) 1 8 Tryz.underlying57 hi hz0 hz1 hz2 rfl (by decide) (.slice A2 D.length c2) D.length (D.map intV) rfl (hO2.out.alloc _) ⟨wr.heap.size, 0, none⟩ 1 1 [intV 0] rfl rfl ?c1 ?c2 ?c3 ?c4 ?c5 ?_)
      case c1 => exact fun j u hj => one_cell _ _ _ _ j u rfl hj
      case c2 => intro u hu; simp at hu; subst hu; rfl
      case c3 => unfold maxLen; omega
      case c4 => omega
      case c5 => have := hb.out.size; simp; omega
      intro v'' w2 hown2 hg2 _
      have HO2 : Hid (Own w2 w.heap.size v'' (D ++ [0])) := Lib.hid (by unfold Own; simpa using hown2)
      have HB2 : Hid (Below w.heap.size w w2) := Lib.hid ((hb.out.alloc hb.out.size _).grown hg2 (by have := hb.out.size; simp; omega) (own_ge hO2.out))
      clear hown2 hg2
      go_wp2_with fail
      go_roundw
      case rel => exact ⟨j + 1, by go_num, by omega, by rw [HSn.out]; exact HO2, HB2⟩
      case measure => simp [intOf]; omega
    · obtain rfl : j = k := by omega
      go_wp2_with fail
      go_ret
      exact ⟨_, rfl, hO.out, hb.out⟩
theorem natOf_cmp_cons (x y : Nat) (L M : List Nat) (hl : L.length = M.length) (hL : Dig L) (h : x < y) : natOf (x :: L) < natOf (y :: M) := by
  rw [natOf_cons, natOf_cons, hl]
  have h1 := natOf_lt L hL
  have h2 : (x + 1) * 10 ^ M.length ≤ y * 10 ^ M.length := Nat.mul_le_mul_right _ h
  rw [Nat.add_mul] at h2
  rw [hl] at h1
  omega
/-- two numbers whose first digits are alike are held by the others -/
theorem natOf_at {L M : List Nat} (hl : L.length = M.length) (hL : Dig L) (k : Nat) (hk : k < L.length) (hk' : k < M.length) (hs : L.take k = M.take k) (h : L[k] < M[k]) : natOf L < natOf M := by
  have e1 : L = L.take k ++ L[k] :: L.drop (k + 1) := by rw [← List.drop_eq_getElem_cons hk, List.take_append_drop]
  have e2 : M = M.take k ++ M[k] :: M.drop (k + 1) := by rw [← List.drop_eq_getElem_cons hk', List.take_append_drop]
  have h1 := natOf_cmp_cons L[k] M[k] (L.drop (k + 1)) (M.drop (k + 1)) (by simp [hl]) (hL.drop _) h
  have q1 := congrArg natOf e1
  have q2 := congrArg natOf e2
  rw [natOf_append] at q1 q2
  rw [hs] at q1
  simp only [List.length_cons, List.length_drop, hl] at q1 q2
  omega
set_option maxRecDepth 100000 in
set_option maxHeartbeats 3200000 in
theorem less_any (A B : Option Addr) (ca cb : Nat) (L M : List Nat) (w : World) (hL : ISl w 0 A ca L) (hM : ISl w 0 B cb M) (hdL : Dig L) (hdM : Dig M) (hlm : L.length = M.length) (hl : L.length ≤ 100000) :
    Calls Tryz.prog 55 #[.slice A L.length ca, .slice B M.length cb] w fun e w' => e = .returned (.bool (decide (natOf L < natOf M))) ∧ Below w.heap.size w w' := by
  have HL := Lib.hid hL
  have HM := Lib.hid hM
  have HDL := Lib.hid hdL
  have HDM := Lib.hid hdM
  have HLM := Lib.hid hlm
  rw [← hlm]
  clear hL hM hdL hdM hlm
  go_enter Tryz.func55, Tryz.ntmps55
  go_wp2_with fail
  go_loopw [5] (fun i wr => ∃ (k q : Nat), i = .int .i64 k ∧ k ≤ L.length ∧ Hid (L.take k = M.take k) ∧ wr = w.drewN q) (fun i _ => L.length - (intOf i).toNat)
  case atStart => exact ⟨0, 0, rfl, Nat.zero_le _, Lib.hid rfl, rfl⟩
  case round =>
    obtain ⟨k, q, rfl, hk, hs, rfl⟩ := hrel
    by_cases hlt : k < L.length
    · have hkM : k < M.length := by rw [← HLM.out]; exact hlt
      obtain ⟨b, off, rfl, -, -, hr⟩ := HL.out.2.2 (by omega)
      obtain ⟨b2, off2, rfl, -, -, hr2⟩ := HM.out.2.2 (by omega)
      have x0 := (hr k hlt).1
      have y0 := (hr2 k hkM).1
      unfold intV at x0 y0
      have HLt : Hid (L[k] < M[k] → natOf L < natOf M) := Lib.hid (natOf_at HLM.out HDL.out k hlt hkM hs.out)
      have HGt : Hid (M[k] < L[k] → natOf M < natOf L) := Lib.hid (natOf_at HLM.out.symm HDM.out k hkM hlt hs.out.symm)
      have HSt : Hid (L[k] = M[k] → L.take (k + 1) = M.take (k + 1)) := Lib.hid (fun h => by rw [List.take_succ_eq_append_getElem hlt, List.take_succ_eq_append_getElem hkM, hs.out, h])
      generalize L[k] = x at *
      generalize M[k] = y at *
      clear hr hr2 hkM
      have hlI : (k : Int) < (L.length : Int) := by omega
      have hkI : (0 : Int) ≤ (k : Int) := by omega
      by_cases hxy : x = y
      · have bxy : ((x : Int) != (y : Int)) = false := by rw [bne_eq_false_iff_eq]; omega
        have hn := Lib.hid (HSt.out hxy)
        clear hxy
        go_wp2_with fail
        go_quiet (fail)
        go_wp2_with fail
        go_roundw
        case rel => exact ⟨k + 1, _, by go_num, by omega, hn, rfl⟩
        case measure => simp [intOf]; omega
      · have bxy : ((x : Int) != (y : Int)) = true := by rw [bne_iff_ne]; omega
        have hr : Hid (decide (natOf L < natOf M) = decide ((x : Int) < (y : Int))) := Lib.hid (by
          rcases Nat.lt_or_gt_of_ne hxy with h | h
          · rw [decide_eq_true (HLt.out h), decide_eq_true (by omega)]
          · have := HGt.out h
            rw [decide_eq_false (by omega), decide_eq_false (by omega)])
        clear hxy
        go_wp2_with fail
        go_quiet (fail)
        go_wp2_with fail
        go_quiet (fail)
        go_wp2_with fail
        go_ret
        exact ⟨ret_bool (by rw [hr.out] <;> simp), below_drewN (below_drewN (below_drewN (Below.refl _ _) _) _) _⟩
    · have hz : Hid (natOf L = natOf M) := Lib.hid (by
        have h1 := hs.out
        rw [List.take_of_length_le (by omega), List.take_of_length_le (by rw [← HLM.out]; omega)] at h1
        rw [h1])
      go_wp2_with fail
      go_ret
      exact ⟨ret_bool (by rw [hz.out]; simp), below_drewN (Below.refl _ _) _⟩
theorem Own.lt {w : World} {base : Nat} {v : Value} {L : List Nat} (h : Own w base v L) : ∀ g, v.ownBlock = some g → g < w.heap.size := by
  intro g hg
  rcases h.2 with ⟨rfl, _⟩ | ⟨g', cap, cur, rfl, _, hh, _⟩
  · simp [Value.ownBlock] at hg
  · simp [Value.ownBlock] at hg
    subst hg
    exact (Array.getElem?_eq_some_iff.1 hh).1
theorem Own.next {w w' : World} {base : Nat} {v : Value} {L : List Nat} (h : Own w base v L) (hb : Below w.heap.size w w') : Own w' base v L := by
  obtain ⟨h1, h2⟩ := h
  refine ⟨h1, ?_⟩
  rcases h2 with h2 | ⟨g, cap, cur, hv, hg, hh, r⟩
  · exact .inl h2
  · exact .inr ⟨g, cap, cur, hv, hg, (hb.block g (Array.getElem?_eq_some_iff.1 hh).1).trans hh, r⟩
theorem Own.isl {w : World} {base : Nat} {v : Value} {L : List Nat} (h : Own w base v L) : ∃ A c, v = .slice A L.length c ∧ ISl w 0 A c L := by
  rcases Nat.eq_zero_or_pos L.length with z | z
  · rcases h.2 with ⟨rfl, _⟩ | ⟨g, cap, cur, rfl, hg, hh, hnc, hcm, _⟩
    · exact ⟨none, 0, by rw [z], by omega, by decide, fun h => by omega⟩
    · exact ⟨_, cap, rfl, hnc, hcm, fun h => by omega⟩
  · obtain ⟨g, cap, e, hs, _⟩ := own_isl (base := 0) h (Nat.zero_le _) z
    exact ⟨_, cap, e, hs⟩
theorem ISl.carry {w w' : World} {A : Option Addr} {cap : Nat} {L : List Nat} (h : ISl w 0 A cap L) (hb : Below w.heap.size w w') : ISl w' 0 A cap L := by
  refine ⟨h.1, h.2.1, fun hp => ?_⟩
  obtain ⟨b, off, h1, h0, h2, h3⟩ := h.2.2 hp
  exact ⟨b, off, h1, h0, Nat.lt_of_lt_of_le h2 hb.size, fun j hj => ⟨(hb.cell (p := ⟨_, _, none⟩) h2).trans (h3 j hj).1, (hb.frozen (p := ⟨_, _, none⟩) h2).trans (h3 j hj).2⟩⟩
/-- a nought ahead: what the append leaves -/
theorem pad_step {wr w1 : World} {base : Nat} {v' : Value} {X : List Nat} (h1 : w1.ownsRow base 3 1 v' (1 + X.length) ([.int .i64 0] ++ X.map intV)) (hg : (wr.alloc (.cells #[.int .i64 0] 3)).grownBy w1 (Value.slice (some ⟨wr.heap.size, 0, none⟩) 1 1).ownBlock) :
    Own w1 base v' (0 :: X) ∧ Below wr.heap.size wr w1 := by
  refine ⟨?_, ((Below.refl _ wr).alloc (Nat.le_refl _) _).grown hg (by simp) (fun k h => by simp [Value.ownBlock] at h; omega)⟩
  unfold Own
  rw [List.length_cons, Nat.add_comm, List.map_cons]
  exact h1
theorem natOf_pad (j : Nat) (X : List Nat) : natOf (List.replicate j 0 ++ X) = natOf X := by rw [natOf_append, natOf_zeros]; simp
theorem natOf_wide (X : List Nat) (k : Nat) : natOf (X ++ List.replicate k 0) = natOf X * 10 ^ k := by rw [natOf_append, natOf_zeros, List.length_replicate]; simp
/-- what level leaves -/
def LevelPost (L M : List Nat) (ea eb : Int) (w : World) (x : Ending) (w' : World) : Prop :=
  ∃ (A B : Option Addr) (ca cb : Nat) (X Y : List Nat) (e : Int), x = .returned (.tuple #[.slice A X.length ca, .slice B Y.length cb, .int .i64 e]) ∧ ISl w' 0 A ca X ∧ ISl w' 0 B cb Y ∧ X.length = Y.length ∧ X.length ≤ 4000 ∧ Dig X ∧ Dig Y ∧
    e = (if eb < ea then eb else ea) ∧ natOf X = natOf L * 10 ^ (ea - e).toNat ∧ natOf Y = natOf M * 10 ^ (eb - e).toNat ∧ Below w.heap.size w w'
set_option maxRecDepth 100000 in
set_option maxHeartbeats 6400000 in
theorem level_any (na nb : Bool) (A B : Option Addr) (ca cb : Nat) (L M : List Nat) (ea eb : Int) (w : World) (hL : ISl w 0 A ca L) (hM : ISl w 0 B cb M) (hdL : Dig L) (hdM : Dig M) (hl1 : L.length ≤ 1000) (hl2 : M.length ≤ 1000)
    (a1 : -500 ≤ ea) (a2 : ea ≤ 500) (b1 : -500 ≤ eb) (b2 : eb ≤ 500) :
    Calls Tryz.prog 54 #[.agg #[.bool na, .slice A L.length ca, .int .i64 ea], .agg #[.bool nb, .slice B M.length cb, .int .i64 eb]] w fun x w' => LevelPost L M ea eb w x w' := by
  obtain ⟨i0, hi, hz0, hz1, hz2⟩ := info_parts infoI64
  have hB0 : Below w.heap.size w ((w.alloc (.cells #[.bool na, .slice A L.length ca, .int .i64 ea] 59)).alloc (.cells #[.bool nb, .slice B M.length cb, .int .i64 eb] 59)) := ((Below.refl _ w).alloc (Nat.le_refl _) _).alloc (by simp) _
  have La : Lies ((w.alloc (.cells #[.bool na, .slice A L.length ca, .int .i64 ea] 59)).alloc (.cells #[.bool nb, .slice B M.length cb, .int .i64 eb] 59)) w.heap.size 59 #[.bool na, .slice A L.length ca, .int .i64 ea] := (Lies.new _ _ _).alloc _
  have Lb : Lies ((w.alloc (.cells #[.bool na, .slice A L.length ca, .int .i64 ea] 59)).alloc (.cells #[.bool nb, .slice B M.length cb, .int .i64 eb] 59)) (w.heap.size + 1) 59 #[.bool nb, .slice B M.length cb, .int .i64 eb] := by
    have := Lies.new (w.alloc (.cells #[.bool na, .slice A L.length ca, .int .i64 ea] 59)) 59 #[.bool nb, .slice B M.length cb, .int .i64 eb]
    simpa using this
  have HB0 := Lib.hid hB0
  have HLa := Lib.hid La
  have HLb := Lib.hid Lb
  have HL := Lib.hid (hL.carry hB0)
  have HM := Lib.hid (hM.carry hB0)
  have HDL := Lib.hid hdL
  have HDM := Lib.hid hdM
  clear hB0 La Lb hL hM hdL hdM
  go_enter Tryz.func54, Tryz.ntmps54
  go_upto_if 15 with fail
  go_cut [7] (fun v wx => v = .int .i64 (if eb < ea then eb else ea) ∧ ((w.alloc (.cells #[.bool na, .slice A L.length ca, .int .i64 ea] 59)).alloc (.cells #[.bool nb, .slice B M.length cb, .int .i64 eb] 59)) = wx)
  case first =>
    by_cases h : eb < ea
    · go_wp2_with fail
      go_meet
      exact ⟨by rw [if_pos h], rfl⟩
    · go_wp2_with fail
      go_meet
      exact ⟨by rw [if_neg (by omega : ¬ eb < ea)], rfl⟩
  case rest =>
    obtain ⟨rfl, rfl⟩ := hcut
    obtain ⟨e, he⟩ : ∃ e : Int, (if eb < ea then eb else ea) = e := ⟨_, rfl⟩
    have HE := Lib.hid he
    have e1 : e ≤ ea := by rw [← he]; split <;> omega
    have e2 : e ≤ eb := by rw [← he]; split <;> omega
    have e3 : -500 ≤ e := by rw [← he]; split <;> omega
    rw [he]
    clear he
    obtain ⟨ka, hka⟩ : ∃ ka : Nat, (ka : Int) = ea - e := ⟨(ea - e).toNat, by omega⟩
    obtain ⟨kb, hkb⟩ : ∃ kb : Nat, (kb : Int) = eb - e := ⟨(eb - e).toNat, by omega⟩
    have HKa := Lib.hid hka
    have HKb := Lib.hid hkb
    have hka2 : ka ≤ 1000 := by omega
    have hkb2 : kb ≤ 1000 := by omega
    clear hka hkb
    go_wp2_with fail
    rw [← HKa.out]
    refine (wide_any A ca L ka _ HL.out (by omega) (by omega)).mono ?_
    rintro x w1 ⟨v1, rfl, hO1, hb1⟩
    have HO1 := Lib.hid (hO1.mono (B := w.heap.size) HB0.out.size)
    have l1 : Lies w1 (w.heap.size + 1) 59 #[.bool nb, .slice B M.length cb, .int .i64 eb] := (hb1.block _ HLb.out.lt).trans HLb.out
    have HB1 : Hid (Below w.heap.size w w1) := Lib.hid (HB0.out.trans (hb1.mono HB0.out.size))
    have HM1 := Lib.hid (HM.out.carry hb1)
    have p1 := l1.cell 1
    have p2 := l1.cell 2
    simp at p1 p2
    clear hO1 hb1 l1 HB0 HL HM HLa HLb
    go_wp2_with fail
    rw [← HKb.out]
    refine (wide_any B cb M kb _ HM1.out (by omega) (by omega)).mono ?_
    rintro x w2 ⟨v2, rfl, hO2, hb2⟩
    have HO2 := Lib.hid (hO2.mono (B := w.heap.size) HB1.out.size)
    have HO1' := Lib.hid (HO1.out.next hb2)
    have HB2 : Hid (Below w.heap.size w w2) := Lib.hid (HB1.out.trans (hb2.mono HB1.out.size))
    have HDx : Hid (Dig (L ++ List.replicate ka 0)) := Lib.hid (HDL.out.append (Dig.zeros _))
    have HDy : Hid (Dig (M ++ List.replicate kb 0)) := Lib.hid (HDM.out.append (Dig.zeros _))
    have HNx : Hid (natOf (L ++ List.replicate ka 0) = natOf L * 10 ^ (ea - e).toNat) := Lib.hid (by rw [natOf_wide]; congr 2; have := HKa.out; omega)
    have HNy : Hid (natOf (M ++ List.replicate kb 0) = natOf M * 10 ^ (eb - e).toNat) := Lib.hid (by rw [natOf_wide]; congr 2; have := HKb.out; omega)
    have hlx : (L ++ List.replicate ka 0).length ≤ 2000 := by simp; omega
    have hly : (M ++ List.replicate kb 0).length ≤ 2000 := by simp; omega
    clear hO2 hb2 HO1 HB1 HM1 p1 p2
    generalize L ++ List.replicate ka 0 = X at *
    generalize M ++ List.replicate kb 0 = Y at *
    obtain ⟨B2, cy, rfl, -, -⟩ := HO2.out.slice
    go_wp2_with fail
    go_loopw [8] (fun v wr => ∃ j : Nat, (j = 0 ∨ j + X.length ≤ Y.length) ∧ Hid (Own wr w.heap.size v (List.replicate j 0 ++ X)) ∧ Hid (Own wr w.heap.size (.slice B2 Y.length cy) Y) ∧ Hid (Below w.heap.size w wr)) (fun v _ => match v with | .slice _ n _ => Y.length - n | _ => 0)
    case atStart => exact ⟨0, .inl rfl, by simpa using HO1', HO2, HB2⟩
    case round =>
      obtain ⟨j, hj, hx, hy, hb⟩ := hrel
      obtain ⟨A2, cx, rfl, hsrc, hfar⟩ := hx.out.slice
      have HSrc := Lib.hid hsrc
      have HFar := Lib.hid hfar
      have hjl : (List.replicate j 0 ++ X).length = j + X.length := by simp
      have HJl := Lib.hid hjl
      have HNj := Lib.hid (natOf_pad j X)
      have HDj : Hid (Dig (List.replicate j 0 ++ X)) := Lib.hid ((Dig.zeros j).append HDx.out)
      have HSn : Hid (List.replicate (j + 1) 0 ++ X = 0 :: (List.replicate j 0 ++ X)) := Lib.hid rfl
      clear hsrc hfar
      generalize List.replicate j 0 ++ X = XJ at *
      by_cases hlt : XJ.length < Y.length
      · have hltI : (XJ.length : Int) < (Y.length : Int) := by omega
        clear hjl
        go_wp2_with (at_builtin; refine wpList_append_src _ rfl (.tmp 37) (.tmp 38) 57 rfl w.heap.size 3 i0 (.int .i64 0) 8 Tryz.underlying57 hi hz0 hz1 hz2 rfl (.slice (some ⟨wr.heap.size, 0, none⟩) 1 1) 1 [.int .i64 0] rfl (fresh_own _ _ _ hb.out.size _ rfl) A2 XJ.length cx (XJ.map intV) rfl (by simp) ?src (ints_one XJ) ?c3 ?c4 ?c5 ?_)
        case src => exact HSrc.out.keep (B := wr.heap.size) (fun ad e => (HFar.out ad e).2) ((Below.refl _ _).alloc (Nat.le_refl _) _)
        case c3 => unfold maxLen; omega
        case c4 => omega
        case c5 => have := hb.out.size; simp; omega
        intro v' w3 hown3 hg3 _
        obtain ⟨q1, q2⟩ := pad_step hown3 hg3
        have Q1 := Lib.hid q1
        have Q2 := Lib.hid (hy.out.next q2)
        have Q3 : Hid (Below w.heap.size w w3) := Lib.hid (hb.out.trans (q2.mono hb.out.size))
        obtain ⟨A3, c3, rfl, -, -⟩ := q1.slice
        clear hown3 hg3 q1 q2
        go_wp2_with fail
        go_roundw
        case rel => exact ⟨j + 1, by have := HJl.out; omega, by rw [HSn.out]; exact Q1, Q2, Q3⟩
        case measure => simp; omega
      · have hltI : ¬ (XJ.length : Int) < (Y.length : Int) := by omega
        have HXY : Hid (Y.length ≤ XJ.length) := Lib.hid (by omega)
        have hxl : XJ.length ≤ 2000 := by have := HJl.out; omega
        clear hlt hjl hj HSn
        obtain ⟨wo, rfl⟩ : ∃ wo : World, wo = wr := ⟨_, rfl⟩
        go_wp2_with fail
        go_loopw [9] (fun v wr => ∃ j : Nat, j + Y.length ≤ XJ.length ∧ Hid (Own wr w.heap.size v (List.replicate j 0 ++ Y)) ∧ Hid (Own wr w.heap.size (.slice A2 XJ.length cx) XJ) ∧ Hid (Below w.heap.size w wr)) (fun v _ => match v with | .slice _ n _ => XJ.length - n | _ => 0)
        case atStart => exact ⟨0, by have := HXY.out; omega, by simpa using hy, hx, hb⟩
        case round =>
          obtain ⟨i, hi', hy2, hx2, hb2⟩ := hrel
          obtain ⟨B3, cy3, rfl, hsrc, hfar⟩ := hy2.out.slice
          have HSrc3 := Lib.hid hsrc
          have HFar3 := Lib.hid hfar
          have hil : (List.replicate i 0 ++ Y).length = i + Y.length := by simp
          have HIl := Lib.hid hil
          have HNi := Lib.hid (natOf_pad i Y)
          have HDi : Hid (Dig (List.replicate i 0 ++ Y)) := Lib.hid ((Dig.zeros i).append HDy.out)
          have HSni : Hid (List.replicate (i + 1) 0 ++ Y = 0 :: (List.replicate i 0 ++ Y)) := Lib.hid rfl
          clear hsrc hfar
          generalize List.replicate i 0 ++ Y = YI at *
          by_cases hlt : YI.length < XJ.length
          · have hltJ : (YI.length : Int) < (XJ.length : Int) := by omega
            clear hil
            go_wp2_with (at_builtin; refine wpList_append_src _ rfl (.tmp 45) (.tmp 46) 57 rfl w.heap.size 3 i0 (.int .i64 0) 8 Tryz.underlying57 hi hz0 hz1 hz2 rfl (.slice (some ⟨wr.heap.size, 0, none⟩) 1 1) 1 [.int .i64 0] rfl (fresh_own _ _ _ hb2.out.size _ rfl) B3 YI.length cy3 (YI.map intV) rfl (by simp) ?src (ints_one YI) ?c3 ?c4 ?c5 ?_)
            case src => exact HSrc3.out.keep (B := wr.heap.size) (fun ad e => (HFar3.out ad e).2) ((Below.refl _ _).alloc (Nat.le_refl _) _)
            case c3 => unfold maxLen; omega
            case c4 => omega
            case c5 => have := hb2.out.size; simp; omega
            intro v' w3 hown3 hg3 _
            obtain ⟨q1, q2⟩ := pad_step hown3 hg3
            have Q1 := Lib.hid q1
            have Q2 := Lib.hid (hx2.out.next q2)
            have Q3 : Hid (Below w.heap.size w w3) := Lib.hid (hb2.out.trans (q2.mono hb2.out.size))
            obtain ⟨A3, c3, rfl, -, -⟩ := q1.slice
            clear hown3 hg3 q1 q2
            go_wp2_with fail
            go_roundw
            case rel => exact ⟨i + 1, by have := HIl.out; omega, by rw [HSni.out]; exact Q1, Q2, Q3⟩
            case measure => simp; omega
          · have hltJ : ¬ (YI.length : Int) < (XJ.length : Int) := by omega
            have hEq : Hid (XJ.length = YI.length) := Lib.hid (by have := HIl.out; omega)
            obtain ⟨A4, c4, e4, s4⟩ := hx2.out.isl
            obtain ⟨B4, d4, f4, t4⟩ := hy2.out.isl
            injection e4 with e4a _ e4c
            injection f4 with f4a _ f4c
            subst e4a; subst e4c; subst f4a; subst f4c
            have S4 := Lib.hid s4
            have T4 := Lib.hid t4
            clear s4 t4 hlt hil
            go_wp2_with fail
            go_ret3
            exact ⟨A2, B3, cx, cy3, XJ, YI, e, rfl, S4.out, T4.out, hEq.out, by omega, HDj.out, HDi.out, HE.out.symm, by rw [HNj.out, HNx.out], by rw [HNi.out, HNy.out], hb2.out⟩
theorem drop_nat (X : List Nat) (m : Nat) (h : m < X.length) : natOf (X.drop m) = X[m] * 10 ^ (X.length - (m + 1)) + natOf (X.drop (m + 1)) := by
  rw [List.drop_eq_getElem_cons h, natOf_cons, List.length_drop]
/-- a digit more of a sum -/
theorem add_step {X Y Z : List Nat} {m c s : Nat} (hX : m < X.length) (hY : m < Y.length) (hl : X.length = Y.length) (hZ : Z.length = X.length - (m + 1)) (hs : X[m] + Y[m] + c = s)
    (h : natOf Z + c * 10 ^ (X.length - (m + 1)) = natOf (X.drop (m + 1)) + natOf (Y.drop (m + 1))) :
    natOf (s % 10 :: Z) + s / 10 * 10 ^ (X.length - m) = natOf (X.drop m) + natOf (Y.drop m) := by
  rw [natOf_cons, hZ, drop_nat X m hX, drop_nat Y m hY, ← hl, show X.length - m = (X.length - (m + 1)) + 1 by omega, Nat.pow_succ]
  generalize 10 ^ (X.length - (m + 1)) = p at *
  have e1 : s % 10 * p + s / 10 * (p * 10) = s * p := by
    have := Nat.div_add_mod s 10
    have e2 : s / 10 * (p * 10) = 10 * (s / 10) * p := by rw [Nat.mul_comm p 10, ← Nat.mul_assoc, Nat.mul_comm (s / 10) 10]
    rw [e2, ← Nat.add_mul, Nat.add_comm, this]
  have e3 : s * p = X[m] * p + Y[m] * p + c * p := by rw [← hs, Nat.add_mul, Nat.add_mul]
  omega
/-- a digit more of a difference: nothing is lent -/
theorem sub_step0 {X Y Z : List Nat} {m c s : Nat} (hX : m < X.length) (hY : m < Y.length) (hl : X.length = Y.length) (hZ : Z.length = X.length - (m + 1)) (hs : X[m] = Y[m] + c + s)
    (h : natOf Z + natOf (Y.drop (m + 1)) = natOf (X.drop (m + 1)) + c * 10 ^ (X.length - (m + 1))) :
    natOf (s :: Z) + natOf (Y.drop m) = natOf (X.drop m) + 0 * 10 ^ (X.length - m) := by
  rw [natOf_cons, hZ, drop_nat X m hX, drop_nat Y m hY, ← hl]
  generalize 10 ^ (X.length - (m + 1)) = p at *
  have e3 : X[m] * p = Y[m] * p + c * p + s * p := by rw [hs, Nat.add_mul, Nat.add_mul]
  omega
/-- a ten is lent -/
theorem sub_step1 {X Y Z : List Nat} {m c s : Nat} (hX : m < X.length) (hY : m < Y.length) (hl : X.length = Y.length) (hZ : Z.length = X.length - (m + 1)) (hs : X[m] + 10 = Y[m] + c + s)
    (h : natOf Z + natOf (Y.drop (m + 1)) = natOf (X.drop (m + 1)) + c * 10 ^ (X.length - (m + 1))) :
    natOf (s :: Z) + natOf (Y.drop m) = natOf (X.drop m) + 1 * 10 ^ (X.length - m) := by
  rw [natOf_cons, hZ, drop_nat X m hX, drop_nat Y m hY, ← hl, show X.length - m = (X.length - (m + 1)) + 1 by omega, Nat.pow_succ]
  generalize 10 ^ (X.length - (m + 1)) = p at *
  have e3 : X[m] * p + 10 * p = Y[m] * p + c * p + s * p := by rw [← Nat.add_mul, hs, Nat.add_mul, Nat.add_mul]
  omega
theorem set_pad (m d : Nat) (Z : List Nat) : (List.replicate (m + 2) 0 ++ Z).set (m + 1) d = List.replicate (m + 1) 0 ++ d :: Z := by
  rw [show m + 2 = (m + 1) + 1 by omega, List.replicate_succ', List.append_assoc, List.set_append_right (h := by simp), List.length_replicate, Nat.sub_self]
  rfl
/-- a sum, or a difference: its sign, and its size -/
def plusIs (na nb : Bool) (X Y : Nat) : Bool × Nat := if na = nb then (na, X + Y) else if X < Y then (nb, Y - X) else (na, X - Y)
theorem make_ints (n : Nat) (w : World) (hn : n ≤ 100000) : ∃ W : World, (Instr.makeSlice 57 (.int .i64 ((n : Int) + 1)) (.int .i64 ((n : Int) + 1))).run Tryz.prog w = .ok (.slice (some ⟨w.heap.size, 0, none⟩) (n + 1) (n + 1)) W ∧ IRow W w.heap.size 0 (List.replicate (n + 1) 0) ∧ Below w.heap.size w W ∧ w.heap.size < W.heap.size := by
  obtain ⟨i0, hi, hz0, hz1, hz2⟩ := info_parts infoI64
  have h := run_make (P := Tryz.prog) w 57 3 i0 (.int .i64 0) Tryz.underlying57 hi hz0 .i64 .i64 ((n : Int) + 1) ((n : Int) + 1) (by omega) (Int.le_refl _) (by rw [hz2]; omega) (by omega)
  have e : ((n : Int) + 1).toNat = n + 1 := by omega
  rw [e, hz1, Nat.mul_one] at h
  refine ⟨_, h, ?_, (Below.refl _ w).alloc (Nat.le_refl _) _, by simp⟩
  intro j hj
  have hl := Lies.new w 3 (madeCells (Value.int .i64 0).cells (n + 1))
  refine ⟨?_, hl.frozen _⟩
  rw [hl.cell, Nat.zero_add]
  rw [List.length_replicate] at hj
  simp [madeCells, hj, Value.cells, intV, Nat.mod_one]
theorem ISl.zero {w : World} {b : Nat} {A : Option Addr} {c : Nat} {L : List Nat} (h : ISl w b A c L) : ISl w 0 A c L :=
  ⟨h.1, h.2.1, fun h0 => by obtain ⟨g, o, e, _, h2, h3⟩ := h.2.2 h0; exact ⟨g, o, e, Nat.zero_le _, h2, h3⟩⟩
/-- what Plus leaves -/
def PlusPost (na nb : Bool) (L M : List Nat) (ea eb : Int) (w : World) (x : Ending) (w' : World) : Prop :=
  ∃ (ng : Bool) (A : Option Addr) (c : Nat) (D : List Nat) (e : Int), x = .returned (.agg #[.bool ng, .slice A D.length c, .int .i64 e]) ∧ ISl w' w.heap.size A c D ∧ Dig D ∧ D.length ≤ 5000 ∧ e = (if eb < ea then eb else ea) ∧
    (ng, natOf D) = plusIs na nb (natOf L * 10 ^ (ea - e).toNat) (natOf M * 10 ^ (eb - e).toNat) ∧ Below w.heap.size w w'
/-- the boxes of the two decimals, and the result's block -/
structure PIn3 (w : World) (ca cb : Array Value) (wr : World) : Prop where
  a : Lies wr w.heap.size 59 ca
  b : Lies wr (w.heap.size + 1) 59 cb
  r : Lies wr (w.heap.size + 2) 59 #[.bool false, .slice none 0 0, .int .i64 0]
  bel : Below w.heap.size w wr
theorem PIn3.next {w w' w'' : World} {ca cb : Array Value} {B : Nat} (h : PIn3 w ca cb w') (hb : Below B w' w'') (hB : w.heap.size + 2 < B) : PIn3 w ca cb w'' :=
  ⟨(hb.block _ (by omega)).trans h.a, (hb.block _ (by omega)).trans h.b, (hb.block _ (by omega)).trans h.r, h.bel.trans (hb.mono (by omega))⟩
theorem PIn3.put {w w' : World} {ca cb : Array Value} (h : PIn3 w ca cb w') {p : Addr} (hp : w.heap.size + 2 < p.block) (u : Value) : PIn3 w ca cb (w'.setCell p u) :=
  ⟨(Below.heap_setCell _ _ _ _ (by omega)).trans h.a, (Below.heap_setCell _ _ _ _ (by omega)).trans h.b, (Below.heap_setCell _ _ _ _ (by omega)).trans h.r, h.bel.setCell (by omega) _⟩
set_option maxRecDepth 100000 in
set_option maxHeartbeats 12800000 in
theorem plus_any (na nb : Bool) (A B : Option Addr) (ca cb : Nat) (L M : List Nat) (ea eb : Int) (w : World) (hL : ISl w 0 A ca L) (hM : ISl w 0 B cb M) (hdL : Dig L) (hdM : Dig M) (hl1 : L.length ≤ 1000) (hl2 : M.length ≤ 1000)
    (a1 : -500 ≤ ea) (a2 : ea ≤ 500) (b1 : -500 ≤ eb) (b2 : eb ≤ 500) :
    Calls Tryz.prog 25 #[.agg #[.bool na, .slice A L.length ca, .int .i64 ea], .agg #[.bool nb, .slice B M.length cb, .int .i64 eb]] w fun x w' => PlusPost na nb L M ea eb w x w' := by
  have hB0 : Below w.heap.size w (((w.alloc (.cells #[.bool na, .slice A L.length ca, .int .i64 ea] 59)).alloc (.cells #[.bool nb, .slice B M.length cb, .int .i64 eb] 59)).alloc (.cells #[.bool false, .slice none 0 0, .int .i64 0] 59)) := (((Below.refl _ w).alloc (Nat.le_refl _) _).alloc (by simp) _).alloc (by simp; omega) _
  have P0 : Hid (PIn3 w #[.bool na, .slice A L.length ca, .int .i64 ea] #[.bool nb, .slice B M.length cb, .int .i64 eb] (((w.alloc (.cells #[.bool na, .slice A L.length ca, .int .i64 ea] 59)).alloc (.cells #[.bool nb, .slice B M.length cb, .int .i64 eb] 59)).alloc (.cells #[.bool false, .slice none 0 0, .int .i64 0] 59))) := Lib.hid ⟨((Lies.new _ _ _).alloc _).alloc _, by
      have := (Lies.new (w.alloc (.cells #[.bool na, .slice A L.length ca, .int .i64 ea] 59)) 59 #[.bool nb, .slice B M.length cb, .int .i64 eb]).alloc (.cells #[.bool false, .slice none 0 0, .int .i64 0] 59)
      simpa using this, by
      have := Lies.new ((w.alloc (.cells #[.bool na, .slice A L.length ca, .int .i64 ea] 59)).alloc (.cells #[.bool nb, .slice B M.length cb, .int .i64 eb] 59)) 59 #[.bool false, .slice none 0 0, .int .i64 0]
      simpa using this, hB0⟩
  have HLv := Lib.hid (fun W hL hM => level_any na nb A B ca cb L M ea eb W hL hM hdL hdM hl1 hl2 a1 a2 b1 b2)
  have HL := Lib.hid (hL.carry hB0)
  have HM := Lib.hid (hM.carry hB0)
  have HSz : Hid ((((w.alloc (.cells #[.bool na, .slice A L.length ca, .int .i64 ea] 59)).alloc (.cells #[.bool nb, .slice B M.length cb, .int .i64 eb] 59)).alloc (.cells #[.bool false, .slice none 0 0, .int .i64 0] 59)).heap.size = w.heap.size + 3) := Lib.hid (by simp)
  clear hB0 hL hM hdL hdM
  go_enter Tryz.func25, Tryz.ntmps25
  go_wp2_with fail
  refine (HLv.out _ HL.out HM.out).mono ?_
  rintro x w1 ⟨A1, B1, cx, cy, X, Y, e, rfl, hX, hY, hXY, hX4, hDX, hDY, heq, hNX, hNY, hb⟩
  have P1 := Lib.hid (P0.out.next (B := w.heap.size + 3) (by have := hb; rw [HSz.out] at this; exact this) (by omega))
  have HS1 : Hid (w.heap.size + 3 ≤ w1.heap.size) := Lib.hid (by have := hb.size; rw [HSz.out] at this; exact this)
  have HX := Lib.hid hX
  have HY := Lib.hid hY
  have HXY := Lib.hid hXY
  have HDX := Lib.hid hDX
  have HDY := Lib.hid hDY
  have HEq := Lib.hid heq
  have HSpec : Hid (∀ ng n, (ng, n) = plusIs na nb (natOf X) (natOf Y) → (ng, n) = plusIs na nb (natOf L * 10 ^ (ea - e).toNat) (natOf M * 10 ^ (eb - e).toNat)) := Lib.hid (fun ng n h => by rw [← hNX, ← hNY]; exact h)
  rw [← hXY]
  clear hX hY hXY hDX hDY heq hNX hNY hb P0 HSz HL HM HLv
  obtain ⟨W2, hmk, hrow, hb2, hlt2⟩ := make_ints X.length w1 (by omega)
  have P2 := Lib.hid (P1.out.next (B := w1.heap.size) hb2 (by have := HS1.out; omega))
  have HRow := Lib.hid hrow
  have HB2 := Lib.hid hb2
  have pa := P2.out.a.cell 0
  have pb := P2.out.b.cell 0
  simp at pa pb
  clear hrow hb2 P1
  by_cases hn : na = nb
  · have bn : (na == nb) = true := by rw [hn]; simp
    have hPl : Hid (plusIs na nb (natOf X) (natOf Y) = (na, natOf X + natOf Y)) := Lib.hid (if_pos hn)
    clear hn
    go_wp2_with fail
    go_loopw [9, 10] (fun v9 v10 wr => ∃ (k c : Nat) (z : Int) (Z : List Nat), v10 = .int .i64 z ∧ Hid (z = (k : Int) - 1) ∧ k ≤ X.length ∧ v9 = .int .i64 c ∧ c ≤ 1 ∧ Hid (Z.length = X.length - k) ∧ Hid (Dig Z) ∧ Hid (natOf Z + c * 10 ^ (X.length - k) = natOf (X.drop k) + natOf (Y.drop k)) ∧ Hid (IRow wr w1.heap.size 0 (List.replicate (k + 1) 0 ++ Z)) ∧ Hid (Below w1.heap.size w1 wr) ∧ w1.heap.size < wr.heap.size ∧ Hid (PIn3 w #[.bool na, .slice A L.length ca, .int .i64 ea] #[.bool nb, .slice B M.length cb, .int .i64 eb] wr)) (fun _ v _ => (intOf v + 1).toNat)
    case atStart => exact ⟨X.length, 0, (X.length : Int) - 1, [], rfl, Lib.hid rfl, Nat.le_refl _, rfl, by omega, Lib.hid (by simp), Lib.hid (fun _ h => by cases h), Lib.hid (by rw [List.drop_of_length_le (Nat.le_refl _), List.drop_of_length_le (by rw [HXY.out]; exact Nat.le_refl _)]; simp [natOf]), Lib.hid (by rw [List.append_nil]; exact HRow.out), HB2, hlt2, P2⟩
    case round =>
      obtain ⟨k, c, z, Z, rfl, hz, hk, rfl, hc, hZl, hZd, hZn, hRow, hBel, hgl, hP⟩ := hrel
      clear pa pb
      have hs1 := HS1.out
      have hne : ¬ w1.heap.size = w.heap.size + 1 + 1 := by omega
      have hne2 : ¬ w.heap.size + 1 + 1 = w1.heap.size := by omega
      have hne3 : ¬ w1.heap.size = w.heap.size := by omega
      have hne4 : ¬ w.heap.size = w1.heap.size := by omega
      cases k with
      | zero =>
        obtain rfl : z = -1 := by have := hz.out; omega
        have hF := hRow.out.set 0 c
        have hE : (List.replicate (0 + 1) 0 ++ Z).set 0 c = c :: Z := rfl
        rw [hE] at hF
        have x0 := (hRow.out 0 (by simp)).1
        have x1 := (hRow.out 0 (by simp)).2
        simp [intV] at x0
        simp at x1
        have hcv : intV c = .int .i64 (c : Int) := rfl
        rw [hcv, Nat.add_zero] at hF
        have HDc : Hid (Dig (c :: Z)) := Lib.hid (Dig.cons (by omega) hZd.out)
        have HNc : Hid (natOf (c :: Z) = natOf X + natOf Y) := Lib.hid (by
          have h1 := hZn.out
          rw [List.drop_zero, List.drop_zero, Nat.sub_zero] at h1
          have h2 := hZl.out
          rw [natOf_cons, h2, Nat.sub_zero]
          omega)
        have HLc : Hid ((c :: Z).length = X.length + 1) := Lib.hid (by have := hZl.out; simp; omega)
        have r0 : wr.cell? ⟨w.heap.size + 1 + 1, 0, none⟩ = some (.bool false) := hP.out.r.cell 0
        have r1 : wr.cell? ⟨w.heap.size + 1 + 1, 1, none⟩ = some (.slice none 0 0) := hP.out.r.cell 1
        have r2 : wr.cell? ⟨w.heap.size + 1 + 1, 2, none⟩ = some (.int .i64 0) := hP.out.r.cell 2
        have s0 : wr.frozen? ⟨w.heap.size + 1 + 1, 0, none⟩ = false := hP.out.r.frozen 0
        have s1 : wr.frozen? ⟨w.heap.size + 1 + 1, 1, none⟩ = false := hP.out.r.frozen 1
        have s2 : wr.frozen? ⟨w.heap.size + 1 + 1, 2, none⟩ = false := hP.out.r.frozen 2
        have pa : wr.cell? ⟨w.heap.size, 0, none⟩ = some (.bool na) := hP.out.a.cell 0
        have HB3 : Hid (Below w.heap.size w wr) := Lib.hid hP.out.bel
        have HSl : Hid (ISl ((((wr.setCell ⟨w1.heap.size, 0, none⟩ (.int .i64 (c : Int))).setCell ⟨w.heap.size + 1 + 1, 0, none⟩ (.bool na)).setCell ⟨w.heap.size + 1 + 1, 1, none⟩ (.slice (some ⟨w1.heap.size, 0, none⟩) (X.length + 1) (X.length + 1))).setCell ⟨w.heap.size + 1 + 1, 2, none⟩ (.int .i64 e)) w.heap.size (some ⟨w1.heap.size, 0, none⟩) (X.length + 1) (c :: Z)) := Lib.hid (by
          have hl := HLc.out
          refine ⟨by omega, by unfold maxLen; omega, fun _ => ⟨w1.heap.size, 0, rfl, by have := HS1.out; omega, by simpa using hgl, fun q hq => ?_⟩⟩
          obtain ⟨g1, g2⟩ := hF q hq
          refine ⟨?_, by simpa using g2⟩
          rw [World.cell?_setCell_other _ _ _ _ (by intro e5; injection e5 with e6; omega), World.cell?_setCell_other _ _ _ _ (by intro e5; injection e5 with e6; omega), World.cell?_setCell_other _ _ _ _ (by intro e5; injection e5 with e6; omega)]
          exact g1)
        clear hF hE hcv hRow
        go_wp2_with fail
        refine bodyPost_ret (v := .agg #[.bool na, .slice (some ⟨w1.heap.size, 0, none⟩) (X.length + 1) (X.length + 1), .int .i64 e]) (by simp [results, Tryz.results25, go_sem, r0, r1, r2]) rfl ?_
        refine ⟨na, some ⟨w1.heap.size, 0, none⟩, X.length + 1, c :: Z, e, by rw [HLc.out], HSl.out, HDc.out, by rw [HLc.out]; omega, HEq.out, HSpec.out _ _ (by rw [hPl.out, HNc.out]), ?_⟩
        exact (((HB3.out.setCell (p := ⟨w1.heap.size, 0, none⟩) (by show w.heap.size ≤ w1.heap.size; omega) _).setCell (p := ⟨w.heap.size + 1 + 1, 0, none⟩) (by show w.heap.size ≤ w.heap.size + 1 + 1; omega) _).setCell (p := ⟨w.heap.size + 1 + 1, 1, none⟩) (by show w.heap.size ≤ w.heap.size + 1 + 1; omega) _).setCell (p := ⟨w.heap.size + 1 + 1, 2, none⟩) (by show w.heap.size ≤ w.heap.size + 1 + 1; omega) _
      | succ m =>
        obtain rfl : z = (m : Int) := by have := hz.out; omega
        have hmX : m < X.length := by omega
        have hmY : m < Y.length := by rw [← HXY.out]; exact hmX
        obtain ⟨bx, ox, rfl, -, hbx, hrx⟩ := HX.out.2.2 (by omega)
        obtain ⟨by', oy, rfl, -, hby, hry⟩ := HY.out.2.2 (by omega)
        have x0 : wr.cell? ⟨bx, ox + m, none⟩ = some (.int .i64 (X[m] : Int)) := (hBel.out.cell (p := ⟨_, _, none⟩) hbx).trans (hrx m hmX).1
        have y0 : wr.cell? ⟨by', oy + m, none⟩ = some (.int .i64 (Y[m] : Int)) := (hBel.out.cell (p := ⟨_, _, none⟩) hby).trans (hry m hmY).1
        have o0 := (hRow.out (m + 1) (by simp; omega)).1
        have o1 := (hRow.out (m + 1) (by simp; omega)).2
        rw [List.getElem_append_left (by simp)] at o0
        simp [intV] at o0
        rw [Nat.zero_add] at o1
        have hx9 : X[m] ≤ 9 := HDX.out _ (List.getElem_mem _)
        have hy9 : Y[m] ≤ 9 := HDY.out _ (List.getElem_mem _)
        obtain ⟨s, hs⟩ : ∃ s, X[m] + Y[m] + c = s := ⟨_, rfl⟩
        have HSt := Lib.hid (add_step hmX hmY HXY.out hZl.out hs hZn.out)
        have hF := hRow.out.set (m + 1) (s % 10)
        rw [set_pad, Nat.zero_add] at hF
        have HF := Lib.hid hF
        have hsI : (X[m] : Int) + (Y[m] : Int) + (c : Int) = (s : Int) := by omega
        have hw1 : IntKind.i64.wrap ((X[m] : Int) + (Y[m] : Int)) = (X[m] : Int) + (Y[m] : Int) := IntWalk.i64_in _ (by omega)
        have hw2 : IntKind.i64.wrap (s : Int) = (s : Int) := IntWalk.i64_in _ (by omega)
        have hs19 : s ≤ 19 := by omega
        have hk0 : (0 : Int) ≤ (m : Int) := by omega
        have hk1 : (m : Int) < (X.length : Int) := by omega
        have hV : intV (s % 10) = .int .i64 ((s : Int) % 10) := by unfold intV; congr 1
        rw [hV] at HF
        have HP2 := Lib.hid (hP.out.put (p := ⟨w1.heap.size, m + 1, none⟩) (by show w.heap.size + 2 < w1.heap.size; omega) (.int .i64 ((s : Int) % 10)))
        have HCd : Hid (((s / 10 : Nat) : Int) = (s : Int) / 10) := Lib.hid (by omega)
        generalize X[m] = xm at *
        generalize Y[m] = ym at *
        clear hrx hry hbx hby hs hF hV hRow
        go_wp2_with fail
        go_quiet (fail)
        go_wp2_with fail
        go_roundw
        case rel => exact ⟨m, s / 10, (m : Int) - 1, s % 10 :: Z, rfl, Lib.hid rfl, by omega, by rw [HCd.out], by omega, Lib.hid (by have := hZl.out; simp; omega), Lib.hid (Dig.cons (by omega) hZd.out), HSt, Lib.hid HF.out, Lib.hid (below_drewN (hBel.out.setCell (p := ⟨w1.heap.size, m + 1, none⟩) (Nat.le_refl _) _) _), by simpa using hgl, Lib.hid (HP2.out.next (B := w.heap.size + 3) (below_drewN (Below.refl _ _) _) (by omega))⟩
        case measure => simp [intOf]
  · have bn : (na == nb) = false := by rw [beq_eq_false_iff_ne]; exact hn
    have hls := Lib.hid (fun W h1 h2 => less_any A1 B1 cx cy X Y W h1 h2 HDX.out HDY.out HXY.out (by omega))
    rw [← HXY.out] at hls
    have HX2 := Lib.hid (HX.out.carry HB2.out)
    have HY2 := Lib.hid (HY.out.carry HB2.out)
    have HPl : Hid (plusIs na nb (natOf X) (natOf Y) = if natOf X < natOf Y then (nb, natOf Y - natOf X) else (na, natOf X - natOf Y)) := Lib.hid (if_neg hn)
    clear hn
    go_wp2_with fail
    refine (hls.out _ HX2.out HY2.out).mono ?_
    rintro x w3 ⟨rfl, hb3⟩
    have P3 := Lib.hid (P2.out.next (B := W2.heap.size) hb3 (by have := HS1.out; omega))
    have HRow3 := Lib.hid (HRow.out.below hb3 hlt2)
    have HB3 : Hid (Below w1.heap.size w1 w3) := Lib.hid (HB2.out.trans (hb3.mono (by omega)))
    have hlt3 : w1.heap.size < w3.heap.size := by have := hb3.size; omega
    have pb3 : w3.cell? ⟨w.heap.size + 1, 0, none⟩ = some (.bool nb) := P3.out.b.cell 0
    clear hb3 hls HX2 HY2 pa pb P2 HRow HB2 hlt2
    go_upto_if 70 with fail
    go_cut [5, 6, 12] (fun v5 v6 v12 wx => ∃ (P Q : List Nat) (Ap Aq : Option Addr) (cp cq : Nat) (ng : Bool), v5 = .slice Ap X.length cp ∧ v6 = .slice Aq X.length cq ∧ v12 = .bool ng ∧ Hid (P.length = X.length) ∧ Hid (Q.length = X.length) ∧ Hid (ISl w1 0 Ap cp P) ∧ Hid (ISl w1 0 Aq cq Q) ∧ Hid (Dig P) ∧ Hid (Dig Q) ∧ Hid (natOf Q ≤ natOf P) ∧ Hid (plusIs na nb (natOf X) (natOf Y) = (ng, natOf P - natOf Q)) ∧ w3 = wx)
    case first =>
      by_cases hxy : natOf X < natOf Y
      · have bl : decide (natOf X < natOf Y) = true := decide_eq_true hxy
        rw [bl]
        have HPl2 : Hid (plusIs na nb (natOf X) (natOf Y) = (nb, natOf Y - natOf X)) := Lib.hid (by rw [HPl.out, if_pos hxy])
        have hle : Hid (natOf X ≤ natOf Y) := Lib.hid (by omega)
        clear hxy bl
        go_wp2_with fail
        go_meet
        exact ⟨Y, X, B1, A1, cy, cx, nb, rfl, rfl, rfl, Lib.hid HXY.out.symm, Lib.hid rfl, HY, HX, HDY, HDX, hle, HPl2, rfl⟩
      · have bl : decide (natOf X < natOf Y) = false := decide_eq_false hxy
        rw [bl]
        have HPl2 : Hid (plusIs na nb (natOf X) (natOf Y) = (na, natOf X - natOf Y)) := Lib.hid (by rw [HPl.out, if_neg hxy])
        have hle : Hid (natOf Y ≤ natOf X) := Lib.hid (by omega)
        clear hxy bl
        go_wp2_with fail
        go_meet
        exact ⟨X, Y, A1, B1, cx, cy, na, rfl, rfl, rfl, Lib.hid rfl, Lib.hid HXY.out.symm, HX, HY, HDX, HDY, hle, HPl2, rfl⟩
    case rest =>
      obtain ⟨P, Q, Ap, Aq, cp, cq, ng, rfl, rfl, rfl, hPl, hQl, HSP, HSQ, HDP, HDQ, hle, HPQ, rfl⟩ := hcut
      clear HX HY HDX HDY HPl pb3
      go_wp2_with fail
      go_loopw [13, 14] (fun v9 v10 wr => ∃ (k c : Nat) (z : Int) (Z : List Nat), v10 = .int .i64 z ∧ Hid (z = (k : Int) - 1) ∧ k ≤ X.length ∧ v9 = .int .i64 c ∧ c ≤ 1 ∧ Hid (Z.length = X.length - k) ∧ Hid (Dig Z) ∧ Hid (natOf Z + natOf (Q.drop k) = natOf (P.drop k) + c * 10 ^ (X.length - k)) ∧ Hid (IRow wr w1.heap.size 0 (List.replicate (k + 1) 0 ++ Z)) ∧ Hid (Below w1.heap.size w1 wr) ∧ w1.heap.size < wr.heap.size ∧ Hid (PIn3 w #[.bool na, .slice A L.length ca, .int .i64 ea] #[.bool nb, .slice B M.length cb, .int .i64 eb] wr)) (fun _ v _ => (intOf v + 1).toNat)
      case atStart => exact ⟨X.length, 0, (X.length : Int) - 1, [], rfl, Lib.hid rfl, Nat.le_refl _, rfl, by omega, Lib.hid (by simp), Lib.hid (fun _ h => by cases h), Lib.hid (by rw [List.drop_of_length_le (by rw [hQl.out]; exact Nat.le_refl _), List.drop_of_length_le (by rw [hPl.out]; exact Nat.le_refl _)]; simp [natOf]), Lib.hid (by rw [List.append_nil]; exact HRow3.out), HB3, hlt3, P3⟩
      case round =>
        obtain ⟨k, c, z, Z, rfl, hz, hk, rfl, hc, hZl, hZd, hZn, hRow, hBel, hgl, hP⟩ := hrel
        have hs1 := HS1.out
        have hne : ¬ w1.heap.size = w.heap.size + 1 + 1 := by omega
        have hne2 : ¬ w.heap.size + 1 + 1 = w1.heap.size := by omega
        cases k with
        | zero =>
          obtain rfl : z = -1 := by have := hz.out; omega
          have HN0 : Hid (natOf (0 :: Z) = natOf P - natOf Q) := Lib.hid (by
            have h1 := hZn.out
            rw [List.drop_zero, List.drop_zero, Nat.sub_zero] at h1
            have h2 := hZl.out
            rw [Nat.sub_zero] at h2
            have h3 := natOf_lt Z hZd.out
            rw [h2] at h3
            have h4 := hle.out
            have h5 : c = 0 := by
              rcases (by omega : c = 0 ∨ c = 1) with e5 | e5
              · exact e5
              · rw [e5, Nat.one_mul] at h1; omega
            rw [natOf_ahead]
            rw [h5] at h1
            omega)
          have hF := hRow.out
          have hE : List.replicate (0 + 1) 0 ++ Z = 0 :: Z := rfl
          rw [hE] at hF
          have HDc : Hid (Dig (0 :: Z)) := Lib.hid (Dig.cons (by omega) hZd.out)
          have HLc : Hid ((0 :: Z).length = X.length + 1) := Lib.hid (by have := hZl.out; simp; omega)
          have r0 : wr.cell? ⟨w.heap.size + 1 + 1, 0, none⟩ = some (.bool false) := hP.out.r.cell 0
          have r1 : wr.cell? ⟨w.heap.size + 1 + 1, 1, none⟩ = some (.slice none 0 0) := hP.out.r.cell 1
          have r2 : wr.cell? ⟨w.heap.size + 1 + 1, 2, none⟩ = some (.int .i64 0) := hP.out.r.cell 2
          have s0 : wr.frozen? ⟨w.heap.size + 1 + 1, 0, none⟩ = false := hP.out.r.frozen 0
          have s1 : wr.frozen? ⟨w.heap.size + 1 + 1, 1, none⟩ = false := hP.out.r.frozen 1
          have s2 : wr.frozen? ⟨w.heap.size + 1 + 1, 2, none⟩ = false := hP.out.r.frozen 2
          have HBz : Hid (Below w.heap.size w wr) := Lib.hid hP.out.bel
          have HSl : Hid (ISl (((wr.setCell ⟨w.heap.size + 1 + 1, 0, none⟩ (.bool ng)).setCell ⟨w.heap.size + 1 + 1, 1, none⟩ (.slice (some ⟨w1.heap.size, 0, none⟩) (X.length + 1) (X.length + 1))).setCell ⟨w.heap.size + 1 + 1, 2, none⟩ (.int .i64 e)) w.heap.size (some ⟨w1.heap.size, 0, none⟩) (X.length + 1) (0 :: Z)) := Lib.hid (by
            have hl := HLc.out
            refine ⟨by omega, by unfold maxLen; omega, fun _ => ⟨w1.heap.size, 0, rfl, by have := HS1.out; omega, by simpa using hgl, fun q hq => ?_⟩⟩
            obtain ⟨g1, g2⟩ := hF q hq
            refine ⟨?_, by simpa using g2⟩
            rw [World.cell?_setCell_other _ _ _ _ (by intro e5; injection e5 with e6; omega), World.cell?_setCell_other _ _ _ _ (by intro e5; injection e5 with e6; omega), World.cell?_setCell_other _ _ _ _ (by intro e5; injection e5 with e6; omega)]
            exact g1)
          clear hF hE hRow
          go_wp2_with fail
          refine bodyPost_ret (v := .agg #[.bool ng, .slice (some ⟨w1.heap.size, 0, none⟩) (X.length + 1) (X.length + 1), .int .i64 e]) (by simp [results, Tryz.results25, go_sem, r0, r1, r2]) rfl ?_
          refine ⟨ng, some ⟨w1.heap.size, 0, none⟩, X.length + 1, 0 :: Z, e, by rw [HLc.out], HSl.out, HDc.out, by rw [HLc.out]; omega, HEq.out, HSpec.out _ _ (by rw [HPQ.out, HN0.out]), ?_⟩
          exact ((HBz.out.setCell (p := ⟨w.heap.size + 1 + 1, 0, none⟩) (by show w.heap.size ≤ w.heap.size + 1 + 1; omega) _).setCell (p := ⟨w.heap.size + 1 + 1, 1, none⟩) (by show w.heap.size ≤ w.heap.size + 1 + 1; omega) _).setCell (p := ⟨w.heap.size + 1 + 1, 2, none⟩) (by show w.heap.size ≤ w.heap.size + 1 + 1; omega) _
        | succ m =>
          obtain rfl : z = (m : Int) := by have := hz.out; omega
          have hmX : m < P.length := by rw [hPl.out]; omega
          have hmY : m < Q.length := by rw [hQl.out]; omega
          have hPQ : P.length = Q.length := by rw [hPl.out, hQl.out]
          obtain ⟨bx, ox, rfl, -, hbx, hrx⟩ := HSP.out.2.2 (by omega)
          obtain ⟨by', oy, rfl, -, hby, hry⟩ := HSQ.out.2.2 (by omega)
          have x0 : wr.cell? ⟨bx, ox + m, none⟩ = some (.int .i64 (P[m] : Int)) := (hBel.out.cell (p := ⟨_, _, none⟩) hbx).trans (hrx m hmX).1
          have y0 : wr.cell? ⟨by', oy + m, none⟩ = some (.int .i64 (Q[m] : Int)) := (hBel.out.cell (p := ⟨_, _, none⟩) hby).trans (hry m hmY).1
          have o0 := (hRow.out (m + 1) (by simp; omega)).1
          have o1 := (hRow.out (m + 1) (by simp; omega)).2
          rw [List.getElem_append_left (by simp)] at o0
          simp [intV] at o0
          rw [Nat.zero_add] at o1
          have hx9 : P[m] ≤ 9 := HDP.out _ (List.getElem_mem _)
          have hy9 : Q[m] ≤ 9 := HDQ.out _ (List.getElem_mem _)
          have HZl : Hid (Z.length = P.length - (m + 1)) := Lib.hid (by rw [hPl.out]; exact hZl.out)
          have HZn : Hid (natOf Z + natOf (Q.drop (m + 1)) = natOf (P.drop (m + 1)) + c * 10 ^ (P.length - (m + 1))) := Lib.hid (by rw [hPl.out]; exact hZn.out)
          have HSt0 : Hid (∀ s, P[m] = Q[m] + c + s → natOf (s :: Z) + natOf (Q.drop m) = natOf (P.drop m) + 0 * 10 ^ (X.length - m)) := Lib.hid (fun s hs => by rw [← hPl.out]; exact sub_step0 hmX hmY hPQ HZl.out hs HZn.out)
          have HSt1 : Hid (∀ s, P[m] + 10 = Q[m] + c + s → natOf (s :: Z) + natOf (Q.drop m) = natOf (P.drop m) + 1 * 10 ^ (X.length - m)) := Lib.hid (fun s hs => by rw [← hPl.out]; exact sub_step1 hmX hmY hPQ HZl.out hs HZn.out)
          have HSet : Hid (∀ s, IRow (wr.setCell ⟨w1.heap.size, m + 1, none⟩ (intV s)) w1.heap.size 0 (List.replicate (m + 1) 0 ++ s :: Z)) := Lib.hid (fun s => by
            have hF := hRow.out.set (m + 1) s
            rw [set_pad, Nat.zero_add] at hF
            exact hF)
          generalize P[m] = xm at *
          generalize Q[m] = ym at *
          have hw1 : IntKind.i64.wrap ((xm : Int) - (ym : Int)) = (xm : Int) - (ym : Int) := IntWalk.i64_in _ (by omega)
          have hw2 : IntKind.i64.wrap ((xm : Int) - (ym : Int) - (c : Int)) = (xm : Int) - (ym : Int) - (c : Int) := IntWalk.i64_in _ (by omega)
          have hk0 : (0 : Int) ≤ (m : Int) := by omega
          have hk1 : (m : Int) < (X.length : Int) := by omega
          clear hrx hry hbx hby hRow HZn HZl
          by_cases hlt : ym + c ≤ xm
          · obtain ⟨s, hs⟩ : ∃ s, xm = ym + c + s := ⟨xm - ym - c, by omega⟩
            have hsI : (xm : Int) - (ym : Int) - (c : Int) = (s : Int) := by omega
            rw [hsI] at hw2
            have HSt := Lib.hid (HSt0.out s hs)
            have hs9 : s ≤ 9 := by omega
            have HP2 := Lib.hid (hP.out.put (p := ⟨w1.heap.size, m + 1, none⟩) (by show w.heap.size + 2 < w1.heap.size; omega) (.int .i64 (s : Int)))
            have HSe : Hid (IRow (wr.setCell ⟨w1.heap.size, m + 1, none⟩ (.int .i64 (s : Int))) w1.heap.size 0 (List.replicate (m + 1) 0 ++ s :: Z)) := Lib.hid (HSet.out s)
            have hs0 : ¬ (s : Int) < 0 := by omega
            clear hs HSt0 HSt1 HSet
            go_wp2_with fail
            go_quiet (fail)
            go_wp2_with fail
            go_roundw
            case rel => exact ⟨m, 0, (m : Int) - 1, s :: Z, rfl, Lib.hid rfl, by omega, rfl, by omega, Lib.hid (by have := hZl.out; simp; omega), Lib.hid (Dig.cons hs9 hZd.out), HSt, Lib.hid HSe.out, Lib.hid (below_drewN (hBel.out.setCell (p := ⟨w1.heap.size, m + 1, none⟩) (Nat.le_refl _) _) _), by simpa using hgl, Lib.hid (HP2.out.next (B := w.heap.size + 3) (below_drewN (Below.refl _ _) _) (by omega))⟩
            case measure => simp [intOf]
          · obtain ⟨s, hs⟩ : ∃ s, xm + 10 = ym + c + s := ⟨xm + 10 - ym - c, by omega⟩
            have hsI : (xm : Int) - (ym : Int) - (c : Int) = (s : Int) - 10 := by omega
            rw [hsI] at hw2
            have HSt := Lib.hid (HSt1.out s hs)
            have hs9 : s ≤ 9 := by omega
            have HP2 := Lib.hid (hP.out.put (p := ⟨w1.heap.size, m + 1, none⟩) (by show w.heap.size + 2 < w1.heap.size; omega) (.int .i64 (s : Int)))
            have HSe : Hid (IRow (wr.setCell ⟨w1.heap.size, m + 1, none⟩ (.int .i64 (s : Int))) w1.heap.size 0 (List.replicate (m + 1) 0 ++ s :: Z)) := Lib.hid (HSet.out s)
            have hs0 : (s : Int) - 10 < 0 := by omega
            clear hs HSt0 HSt1 HSet
            go_wp2_with fail
            go_quiet (fail)
            go_wp2_with fail
            go_roundw
            case rel => exact ⟨m, 1, (m : Int) - 1, s :: Z, rfl, Lib.hid rfl, by omega, rfl, by omega, Lib.hid (by have := hZl.out; simp; omega), Lib.hid (Dig.cons hs9 hZd.out), HSt, Lib.hid HSe.out, Lib.hid (below_drewN (hBel.out.setCell (p := ⟨w1.heap.size, m + 1, none⟩) (Nat.le_refl _) _) _), by simpa using hgl, Lib.hid (HP2.out.next (B := w.heap.size + 3) (below_drewN (Below.refl _ _) _) (by omega))⟩
            case measure => simp [intOf]
end Go.Proofs.YtpdaloohgfnbhaaGreatDoor
