/-
  counterpaneref01.strip, cut, Near: what they return.
-/
import Derived.Test.YtpdaloohgfnbhaaGreatDoorRefA3
import Derived.Test.YtpdaloohgfnbhaaGreatDoorPlainW
import Derived.Test.YtpdaloohgfnbhaaGreatDoorNum9
namespace Go.Proofs.YtpdaloohgfnbhaaGreatDoor
open Go.RowKit

/-- digits in memory, as ints -/
def ISl (w : World) (base : Nat) (A : Option Addr) (cap : Nat) (ds : List Nat) : Prop :=
  ds.length ≤ cap ∧ cap ≤ maxLen ∧ (0 < ds.length → ∃ b off, A = some ⟨b, off, none⟩ ∧ base ≤ b ∧ b < w.heap.size ∧ ∀ j (h : j < ds.length), w.cell? ⟨b, off + j, none⟩ = some (intV ds[j]) ∧ w.frozen? ⟨b, off + j, none⟩ = false)
/-- what strip leaves -/
def StripPost (A0 : Option Addr) (base : Nat) (ds : List Nat) (w : World) (e : Ending) (w' : World) : Prop := ∃ A cap, e = .returned (.slice A (bareL ds).length cap) ∧ ISl w base A cap (bareL ds) ∧ w = w' ∧ (∀ a, A = some a → ∃ a0, A0 = some a0 ∧ a.block = a0.block)
theorem ISl.tail {w : World} {base b off cap : Nat} {d : Nat} {ds : List Nat} (h : ISl w base (some ⟨b, off, none⟩) cap (d :: ds)) : ISl w base (if cap = 1 then some ⟨b, off, none⟩ else some ⟨b, off + 1, none⟩) (cap - 1) ds := by
  obtain ⟨h1, h2, h3⟩ := h
  simp only [List.length_cons] at h1 h3
  refine ⟨by omega, by omega, fun hp => ?_⟩
  obtain ⟨b', off', e, hb, hlt, hc⟩ := h3 (by omega)
  injection e with e
  injection e with e1 e2 e3
  subst e1; subst e2
  rw [if_neg (by omega)]
  refine ⟨b, off + 1, rfl, hb, hlt, fun j hj => ?_⟩
  have := hc (j + 1) (by omega)
  simpa [Nat.add_assoc, Nat.add_comm 1 j] using this
set_option maxRecDepth 100000 in
set_option maxHeartbeats 1600000 in
theorem strip_any (A : Option Addr) (cap base : Nat) (ds : List Nat) (w : World) (h : ISl w base A cap ds) :
    Calls Tryz.prog 52 #[.slice A ds.length cap] w fun e w' => StripPost A base ds w e w' := by
  have HB := Lib.hid h
  clear h
  go_enter Tryz.func52, Tryz.ntmps52
  go_wp2_with fail
  go_loop [0] (fun v => ∃ (L : List Nat) (A' : Option Addr) (cap' n : Nat), v = .slice A' n cap' ∧ Hid (n = L.length) ∧ Hid (ISl w base A' cap' L) ∧ Hid (bareL L = bareL ds) ∧ Hid (∀ a, A' = some a → ∃ a0, A = some a0 ∧ a.block = a0.block)) (fun v => match v with | .slice _ n _ => n | _ => 0)
  case atStart => exact ⟨ds, A, cap, ds.length, rfl, Lib.hid rfl, HB, Lib.hid rfl, Lib.hid (fun a h => ⟨a, h, rfl⟩)⟩
  case round =>
    obtain ⟨L, A', cap', n, rfl, hn, hB, hq, hA⟩ := hrel
    cases L with
    | nil =>
      have h0 : n = 0 := by rw [hn.out]; rfl
      subst h0
      have hr : Hid (bareL ds = []) := Lib.hid (by rw [← hq.out]; rfl)
      go_wp2_with fail
      go_ret
      exact ⟨A', cap', by rw [hr.out]; rfl, by rw [hr.out]; exact hB.out, rfl, hA.out⟩
    | cons d L =>
      obtain ⟨b, off, rfl, hbb, hlt, hc⟩ := hB.out.2.2 (by simp)
      have c0 := (hc 0 (by simp)).1
      simp only [Nat.add_zero, List.getElem_cons_zero, intV] at c0
      have hcap := hB.out.1
      have hcap2 := hB.out.2.1
      unfold maxLen at hcap2
      have hn1 : 0 < n := by rw [hn.out]; simp
      have hnc : n ≤ cap' := by rw [hn.out]; exact hcap
      clear hc hcap
      by_cases hd : d = 0
      · subst hd
        have hB2 := Lib.hid hB.out.tail
        have hA2 : Hid (∀ a, (if cap' = 1 then some (⟨b, off, none⟩ : Addr) else some ⟨b, off + 1, none⟩) = some a → ∃ a0, A = some a0 ∧ a.block = a0.block) := Lib.hid (fun a h => by
          obtain ⟨a0, h1, h2⟩ := hA.out _ rfl
          refine ⟨a0, h1, ?_⟩
          split at h <;> (injection h with h; subst h; exact h2))
        have hn2 : Hid (n - 1 = L.length) := Lib.hid (by rw [hn.out]; simp)
        have hq2 : Hid (bareL L = bareL ds) := Lib.hid hq.out
        go_wp2_with fail
        go_round
        case rel => exact ⟨L, _, cap' - 1, n - 1, rfl, hn2, hB2, hq2, hA2⟩
        case measure => simp; omega
      · have bd : ((d : Int) == 0) = false := by rw [beq_eq_false_iff_ne]; omega
        have hr : Hid (bareL ds = d :: L) := Lib.hid (by
          rw [← hq.out]
          cases d with
          | zero => exact absurd rfl hd
          | succ d => rfl)
        clear hd
        go_wp2_with fail
        go_ret
        exact ⟨some ⟨b, off, none⟩, cap', by rw [hr.out, hn.out]; rfl, by rw [hr.out]; exact hB.out, rfl, hA.out⟩
/-- a row of digits that may be written -/
def IRow (w : World) (b off : Nat) (L : List Nat) : Prop := ∀ j (h : j < L.length), w.cell? ⟨b, off + j, none⟩ = some (intV L[j]) ∧ w.frozen? ⟨b, off + j, none⟩ = false
theorem IRow.set {w : World} {b off : Nat} {L : List Nat} (h : IRow w b off L) (k c : Nat) : IRow (w.setCell ⟨b, off + k, none⟩ (intV c)) b off (L.set k c) := by
  intro j hj
  rw [List.length_set] at hj
  obtain ⟨h1, h2⟩ := h j hj
  by_cases e : k = j
  · subst e
    refine ⟨?_, by simpa using h2⟩
    rw [World.cell?_setCell_same' _ _ _ (by rw [h1]; rfl)]
    simp
  · refine ⟨?_, by simpa using h2⟩
    rw [World.cell?_setCell_other _ _ _ _ (by intro e2; injection e2 with e3 e4; omega), h1]
    rw [List.getElem_set_ne e]
theorem IRow.take {w : World} {b off : Nat} {L : List Nat} (h : IRow w b off L) (n : Nat) : IRow w b off (L.take n) := by
  intro j hj
  rw [List.length_take] at hj
  have := h j (by omega)
  rw [List.getElem_take]
  exact this
theorem IRow.drop {w : World} {b off : Nat} {L : List Nat} (h : IRow w b off L) (n : Nat) : IRow w b (off + n) (L.drop n) := by
  intro j hj
  rw [List.length_drop] at hj
  have := h (n + j) (by omega)
  rw [List.getElem_drop, Nat.add_assoc]
  exact this
theorem IRow.sl {w : World} {b off base cap : Nat} {L : List Nat} (h : IRow w b off L) (h1 : base ≤ b) (h2 : b < w.heap.size) (h3 : L.length ≤ cap) (h4 : cap ≤ maxLen) : ISl w base (some ⟨b, off, none⟩) cap L := ⟨h3, h4, fun _ => ⟨b, off, rfl, h1, h2, h⟩⟩
/-- digits that the call owns, in a row of their own -/
theorem own_isl {w : World} {base B : Nat} {v : Value} {ds : List Nat} (h : w.ownsRow B 3 1 v ds.length (ds.map intV)) (hB : base ≤ B) (h0 : 0 < ds.length) : ∃ g cap, v = .slice (some ⟨g, 0, none⟩) ds.length cap ∧ ISl w base (some ⟨g, 0, none⟩) cap ds ∧ IRow w g 0 ds := by
  rcases h.2 with ⟨_, h1⟩ | ⟨g, cap, cur, rfl, hg, hh, hnc, hcm, hcs, ht⟩
  · omega
  · have hrow : IRow w g 0 ds := by
      intro j hj
      have hl : Lies w g 3 cur := hh
      refine ⟨?_, hl.frozen _⟩
      rw [hl.cell, Nat.zero_add]
      have h2 : (cur.toList.take (ds.length * 1))[j]? = (ds.map intV)[j]? := by rw [ht]
      rw [Nat.mul_one, List.getElem?_take_of_lt hj, List.getElem?_map, List.getElem?_eq_getElem hj] at h2
      simpa using h2
    have hlt : g < w.heap.size := (Array.getElem?_eq_some_iff.1 hh).1
    exact ⟨g, cap, rfl, hrow.sl (by omega) hlt hnc hcm, hrow⟩
theorem IRow.src {w : World} {b off : Nat} {L : List Nat} (h : IRow w b off L) : Src w (some ⟨b, off, none⟩) (L.map intV) := by
  refine ⟨fun e => (by cases e), fun ad e j u hu => ?_⟩
  injection e with e
  subst e
  rw [List.getElem?_map] at hu
  have hj : j < L.length := by
    rcases Nat.lt_or_ge j L.length with g | g
    · exact g
    · rw [List.getElem?_eq_none g] at hu; cases hu
  rw [List.getElem?_eq_getElem hj] at hu
  have h2 : u = intV L[j] := by simpa using hu.symm
  rw [h2, ← (h j hj).1]
  have ea : (⟨b, off, none⟩ : Addr).add j = ⟨b, off + j, none⟩ := by
    unfold Addr.add
    by_cases e0 : j = 0
    · subst e0; simp
    · simp [e0]
  rw [ea]
theorem IRow.below {w w' : World} {b off B : Nat} {L : List Nat} (h : IRow w b off L) (hb : Below B w w') (hB : b < B) : IRow w' b off L := fun j hj => ⟨(hb.cell (p := ⟨_, _, none⟩) hB).trans (h j hj).1, (hb.frozen (p := ⟨_, _, none⟩) hB).trans (h j hj).2⟩
/-- what cut leaves -/
def RCutPost (L : List Nat) (k : Nat) (w : World) (e : Ending) (w' : World) : Prop :=
  ∃ A cap ds', e = .returned (.slice A ds'.length cap) ∧ ISl w' 0 A cap ds' ∧ Dig ds' ∧ natOf ds' = rhe (natOf L) k ∧ (Lead L → Lead ds') ∧ ds'.length ≤ L.length + 1 ∧ Below w.heap.size w w'
theorem rcutPost_mk {L : List Nat} {k : Nat} {w w' : World} (A : Option Addr) (cap m : Nat) (ds' : List Nat) (hm : m = ds'.length) (h1 : ISl w' 0 A cap ds') (h2 : Dig ds') (h3 : natOf ds' = rhe (natOf L) k) (h4 : Lead L → Lead ds') (h5 : ds'.length ≤ L.length + 1) (h6 : Below w.heap.size w w') :
    RCutPost L k w (.returned (.slice A m cap)) w' := ⟨A, cap, ds', by rw [hm], h1, h2, h3, h4, h5, h6⟩
theorem strip_at (A : Option Addr) (cap m : Nat) (ds : List Nat) (w : World) (hm : ds.length = m) (h : ISl w 0 A cap ds) :
    Calls Tryz.prog 52 #[.slice A m cap] w fun e w' => StripPost A 0 ds w e w' := by subst hm; exact strip_any A cap 0 ds w h
set_option maxRecDepth 100000 in
set_option maxHeartbeats 1600000 in
/-- more is cut off than there is -/
theorem rcut_all (A : Option Addr) (cap : Nat) (L : List Nat) (k : Nat) (w : World) (hd : Dig L) (hk : L.length < k) :
    Calls Tryz.prog 53 #[.slice A L.length cap, .int .i64 (k : Int), .bool false] w fun e w' => RCutPost L k w e w' := by
  have HZ : Hid (rhe (natOf L) k = 0) := Lib.hid (rhe_big _ _ (by have := dlen_le (natOf_lt L hd); omega))
  have hkl : (L.length : Int) < (k : Int) := by omega
  clear hd
  go_enter Tryz.func53, Tryz.ntmps53
  go_wp2_with fail
  go_ret
  exact rcutPost_mk none 0 0 [] rfl ⟨by simp, by decide, fun h => by simp at h⟩ (fun _ h => by cases h) (by rw [HZ.out]; rfl) (fun _ d t h => by cases h) (by simp) (Below.refl _ _)
set_option maxRecDepth 100000 in
set_option maxHeartbeats 6400000 in
/-- some of the digits are cut off -/
theorem rcut_some (b off cap n : Nat) (L : List Nat) (k : Nat) (w : World) (hr : IRow w b off L) (hb : b < w.heap.size) (hcap : L.length ≤ cap) (hcm : cap ≤ maxLen) (hd : Dig L) (hk : 0 < k) (hL : L.length = n + k) (hl : L.length ≤ 2000) :
    Calls Tryz.prog 53 #[.slice (some ⟨b, off, none⟩) L.length cap, .int .i64 (k : Int), .bool false] w fun e w' => RCutPost L k w e w' := by
  obtain ⟨i0, hi, hz0, hz1, hz2⟩ := info_parts infoI64
  have hn : n < L.length := by omega
  have HCM := Lib.hid hcm
  have HR := Lib.hid hr
  have HD := Lib.hid hd
  have hS : L = L.take n ++ L[n] :: L.drop (n + 1) := by rw [← List.drop_eq_getElem_cons hn, List.take_append_drop]
  have hlen : (L.drop (n + 1)).length + 1 = k := by rw [List.length_drop]; omega
  have hV : rhe (natOf L) k = natOf (L.take n) + (if upB (L.take n) L[n] (L.drop (n + 1)) then 1 else 0) := by
    rw [← hlen]
    have := rhe_digits (L.take n) L[n] (L.drop (n + 1)) (by rw [← List.drop_eq_getElem_cons hn]; exact hd.drop n)
    rw [← hS] at this
    exact this
  have HV := Lib.hid hV
  have e1 : (L.length : Int) - (k : Int) = (n : Int) := by omega
  have hnc : n < cap := by omega
  have HLk := Lib.hid hL
  clear hS hlen hV hcm hr hd hL
  go_enter Tryz.func53, Tryz.ntmps53
  have HSrc : Hid (Src (w.alloc (.cells #[.int .i64 0] 3)) (some ⟨b, off, none⟩) ((L.take n).map intV)) := Lib.hid ((HR.out.take n).src.keep (B := w.heap.size) (fun ad e => by injection e with e; subst e; exact hb) ((Below.refl _ _).alloc (Nat.le_refl _) _))
  have hln : (L.take n).length = n := by rw [List.length_take]; omega
  have HLn := Lib.hid hln
  clear hln
  go_wp2_with (at_builtin; refine wpList_append_src _ rfl (.tmp 16) (.tmp 22) 57 rfl w.heap.size 3 i0 (.int .i64 0) 8 Tryz.underlying57 hi hz0 hz1 hz2 rfl (.slice (some ⟨w.heap.size, 0, none⟩) 1 1) 1 [.int .i64 0] rfl (fresh_own _ _ _ (Nat.le_refl _) _ rfl) (some ⟨b, off, none⟩) n cap ((L.take n).map intV) rfl (by rw [List.length_map]; exact HLn.out) HSrc.out (ints_one _) ?c3 ?c4 ?c5 ?_)
  case c3 => unfold maxLen; omega
  case c4 => omega
  case c5 => simp
  intro v' w1 hown1 hg1 _
  have hO : w1.ownsRow w.heap.size 3 1 v' (0 :: L.take n).length ((0 :: L.take n).map intV) := by
    rw [List.length_cons, HLn.out, Nat.add_comm, List.map_cons, List.map_take]
    exact hown1
  obtain ⟨g, cap2, rfl, hsl1, hrow1⟩ := own_isl (base := 0) hO (Nat.zero_le _) (by simp)
  have HG : Hid (w.heap.size ≤ g) := Lib.hid (own_ge hO g rfl)
  have HGlt : Hid (g < w1.heap.size) := Lib.hid (by obtain ⟨b', o', q1, _, q3, _⟩ := hsl1.2.2 (by simp); injection q1 with q1; injection q1 with q1 _ _; subst q1; exact q3)
  have HRow := Lib.hid hrow1
  have HCap2 : Hid ((0 :: L.take n).length ≤ cap2 ∧ cap2 ≤ maxLen) := Lib.hid ⟨hsl1.1, hsl1.2.1⟩
  have HB1 : Hid (Below w.heap.size w w1) := Lib.hid (((Below.refl _ w).alloc (Nat.le_refl _) _).grown hg1 (by simp) (fun k h => by simp [Value.ownBlock] at h; omega))
  have HR1 : Hid (IRow w1 b off L) := Lib.hid (HR.out.below HB1.out hb)
  have hKl : (0 :: L.take n).length = n + 1 := by rw [List.length_cons, HLn.out]
  rw [hKl] at hO ⊢
  clear hown1 hg1 hO hsl1 hrow1 HSrc HR
  have bk : ((k : Int) == 0) = false := by rw [beq_eq_false_iff_ne]; omega
  have HKl := Lib.hid hKl
  clear hKl
  have x0 := (HR1.out n hn).1
  unfold intV at x0
  have hx9 : L[n] ≤ 9 := HD.out _ (List.getElem_mem hn)
  have hUp : upB (L.take n) L[n] (L.drop (n + 1)) = (decide (5 < L[n]) || (decide (L[n] = 5) && (decide (0 < (bareL (L.drop (n + 1))).length) || decide (natOf (L.take n) % 2 = 1)))) := rfl
  rw [← any_bare] at hUp
  have HU := Lib.hid hUp
  have HRl : Hid ((L.drop (n + 1)).length + 1 = k) := Lib.hid (by rw [List.length_drop]; omega)
  clear hUp
  go_wp2_with fail
  rw [show L.length - n = k by omega]
  go_loop [2, 9] (fun m i => ∃ j : Nat, j + 1 ≤ k ∧ i = .int .i64 ((j : Int) + 1) ∧ m = .bool (((L.drop (n + 1)).take j).any (fun d => d != 0))) (fun _ i => k - (intOf i).toNat)
  case atStart => exact ⟨0, by omega, rfl, rfl⟩
  case round =>
    obtain ⟨j, hj, rfl, rfl⟩ := hrel
    by_cases hlt : j + 1 < k
    · have hjR : j < (L.drop (n + 1)).length := by have := HRl.out; omega
      have hjL : n + (j + 1) < L.length := by omega
      have y0 := (HR1.out (n + (j + 1)) hjL).1
      rw [← Nat.add_assoc] at y0
      unfold intV at y0
      have hst : ((L.drop (n + 1)).take (j + 1)).any (fun d => d != 0) = (((L.drop (n + 1)).take j).any (fun d => d != 0) || (L[n + (j + 1)] != 0)) := by
        rw [List.take_succ_eq_append_getElem hjR, List.any_append]
        simp [List.getElem_drop, Nat.add_assoc, Nat.add_comm 1 j]
      have HSt := Lib.hid hst
      clear hst hjR
      generalize L[n + (j + 1)] = y at *
      generalize ((L.drop (n + 1)).take j).any (fun d => d != 0) = q at *
      have hi2 : ((j : Int) + 1).toNat = j + 1 := by omega
      cases q
      · go_wp2_with fail
        go_round
        case rel => exact ⟨j + 1, by omega, by go_num, by rw [HSt.out]; congr 1; rw [Bool.eq_iff_iff]; simp⟩
        case measure => simp [intOf]; omega
      · go_wp2_with fail
        go_round
        case rel => exact ⟨j + 1, by omega, by go_num, by rw [HSt.out]; rfl⟩
        case measure => simp [intOf]; omega
    · have hqa : ((L.drop (n + 1)).take j).any (fun d => d != 0) = (L.drop (n + 1)).any (fun d => d != 0) := by
        rw [List.take_of_length_le (by have := HRl.out; omega)]
      rw [hqa]
      clear hqa
      have hpar := last_parity (L.take n) (0 :: L.take n) rfl n HKl.out.symm
      have hK0 : (0 :: L.take n)[0]'(by simp) = 0 := rfl
      have HKD : Hid (Dig (0 :: L.take n)) := Lib.hid (Dig.cons (Nat.zero_le _) (HD.out.take n))
      have HKN : Hid (natOf (0 :: L.take n) = natOf (L.take n)) := Lib.hid (natOf_ahead _)
      have HKB : Hid (∀ h : 0 < (0 :: L.take n).length, (0 :: L.take n)[0] = 0) := Lib.hid (fun _ => rfl)
      rw [hpar] at HU
      clear hpar hK0 HLn
      generalize hK : 0 :: L.take n = K at *
      clear hK
      generalize natOf (L.take n) = NH at *
      generalize upB (L.take n) L[n] (L.drop (n + 1)) = u at *
      generalize (L.drop (n + 1)).any (fun d => d != 0) = q at *
      generalize L[n] = x at *
      have hnK : n < K.length := by rw [HKl.out]; omega
      have z0 := (HRow.out n hnK).1
      unfold intV at z0
      rw [Nat.zero_add] at z0
      have hz9 : K[n] ≤ 9 := HKD.out _ (List.getElem_mem _)
      generalize hy : K[n] = y at *
      clear hy
      go_upto_region 12 with fail
      go_cut [70] (fun v wx => v = .bool u ∧ w1 = wx)
      case first =>
        by_cases h5 : 5 < x
        · have hu : Hid (u = true) := Lib.hid (by rw [HU.out]; simp [h5])
          go_wp2_with fail
          go_meet
          exact ⟨by rw [hu.out], rfl⟩
        · by_cases h6 : x = 5
          · subst h6
            cases q
            · have hu : Hid (u = decide (y % 2 = 1)) := Lib.hid (by rw [HU.out]; simp)
              go_wp2_with fail
              go_meet
              refine ⟨?_, rfl⟩
              rw [hu.out]
              congr 1
              rw [Bool.eq_iff_iff]
              simp
              omega
            · have hu : Hid (u = true) := Lib.hid (by rw [HU.out]; simp)
              go_wp2_with fail
              go_meet
              exact ⟨by rw [hu.out], rfl⟩
          · have hu : Hid (u = false) := Lib.hid (by rw [HU.out]; simp [h5, h6])
            have b5 : ((x : Int) == 5) = false := by rw [beq_eq_false_iff_ne]; omega
            clear h6
            go_wp2_with fail
            go_meet
            exact ⟨by rw [hu.out]; congr 1; simp; omega, rfl⟩
      case rest =>
        obtain ⟨rfl, rfl⟩ := hcut
        clear z0 x0 HU hx9 hz9
        cases u
        · rw [if_neg (by decide)] at HV
          go_wp2_with fail
          refine (strip_at (some ⟨g, 0, none⟩) cap2 _ K _ HKl.out (HRow.out.sl (Nat.zero_le _) HGlt.out HCap2.out.1 HCap2.out.2)).mono ?_
          rintro e w' ⟨A3, cap3, rfl, hs3, rfl, -⟩
          have HS3 := Lib.hid hs3
          clear hs3
          go_wp2_with fail
          go_ret
          exact rcutPost_mk A3 cap3 _ (bareL K) rfl HS3.out (bareL_dig HKD.out) (by rw [bareL_nat, HKN.out, HV.out]; rfl) (fun _ => lead_bare K) (by have := bareL_len K; rw [HKl.out] at this; omega) HB1.out
        · rw [if_pos rfl] at HV
          go_wp2_with fail
          go_loopw [11] (fun i wr => ∃ m : Nat, m ≤ n ∧ i = .int .i64 (m : Int) ∧ Hid (Nines K (m + 1)) ∧ Hid (IRow wr g 0 (inc K (m + 1))) ∧ Hid (Below w.heap.size w wr) ∧ g < wr.heap.size) (fun i _ => (intOf i).toNat)
          case atStart => exact ⟨n, Nat.le_refl _, rfl, Lib.hid (by rw [← HKl.out]; exact Nines.all K), Lib.hid (by rw [← HKl.out, inc_all]; exact HRow.out), HB1, HGlt.out⟩
          case round =>
            obtain ⟨m, hmn, rfl, hnine, hrow, hbel, hgl⟩ := hrel
            have hmK : m < K.length := by omega
            have hil := inc_len K (m + 1) (by omega)
            have y0 := (hrow.out m (by omega)).1
            have y1 := (hrow.out m (by omega)).2
            rw [inc_get K m hmK (by omega)] at y0
            unfold intV at y0
            rw [Nat.zero_add] at y0 y1
            have hy9 : K[m] ≤ 9 := HKD.out _ (List.getElem_mem _)
            by_cases h9 : K[m] = 9
            · have hm0 : m ≠ 0 := by
                intro e
                subst e
                have := HKB.out hmK
                omega
              obtain ⟨p, rfl⟩ : ∃ p, m = p + 1 := ⟨m - 1, by omega⟩
              have hF := Lib.hid (hrow.out.set (p + 1) 0)
              rw [inc_down K (p + 1) hmK] at hF
              have hN2 : Hid (Nines K (p + 1)) := Lib.hid (hnine.out.down hmK h9)
              have hE : intV 0 = .int .i64 0 := rfl
              rw [hE, Nat.zero_add] at hF
              generalize K[p + 1] = y at *
              subst h9
              clear hil hnine hy9 hE hm0
              go_wp2_with fail
              go_roundw
              case rel => exact ⟨p, by omega, by go_num, hN2, hF, Lib.hid (hbel.out.setCell (p := ⟨g, p + 1, none⟩) HG.out _), by simpa using hgl⟩
              case measure => simp [intOf]
            · have hF := Lib.hid (hrow.out.set m (K[m] + 1))
              have hN := Lib.hid (inc_up K m hmK hnine.out)
              have hD2 : Hid (Dig (K.take m ++ (K[m] + 1) :: List.replicate (K.length - (m + 1)) 0)) := Lib.hid ((HKD.out.take m).append (Dig.cons (by omega) (Dig.zeros _)))
              have hlen : Hid ((K.take m ++ (K[m] + 1) :: List.replicate (K.length - (m + 1)) 0).length = n + 1) := Lib.hid (by simp; have := HKl.out; omega)
              have hE : intV (K[m] + 1) = .int .i64 ((K[m] : Int) + 1) := by unfold intV; congr 1
              rw [inc_set K m _ hmK, hE, Nat.zero_add] at hF
              generalize K.take m ++ (K[m] + 1) :: List.replicate (K.length - (m + 1)) 0 = R at *
              have b9 : ((K[m] : Int) == 9) = false := by rw [beq_eq_false_iff_ne]; omega
              generalize K[m] = y at *
              clear hil hnine hE h9
              go_wp2_with fail
              refine (strip_at (some ⟨g, 0, none⟩) cap2 _ R _ hlen.out (hF.out.sl (Nat.zero_le _) (by simpa using hgl) (by rw [hlen.out, ← HKl.out]; exact HCap2.out.1) HCap2.out.2)).mono ?_
              rintro e w' ⟨A3, cap3, rfl, hs3, rfl, -⟩
              have HS3 := Lib.hid hs3
              clear hs3
              go_wp2_with fail
              go_ret
              exact rcutPost_mk A3 cap3 _ (bareL R) rfl HS3.out (bareL_dig hD2.out) (by rw [bareL_nat, hN.out, HKN.out, HV.out]) (fun _ => lead_bare R) (by have := bareL_len R; rw [hlen.out] at this; omega) (hbel.out.setCell (p := ⟨g, m, none⟩) HG.out _)
theorem ISl.row {w : World} {A : Option Addr} {cap : Nat} {L : List Nat} (h : ISl w 0 A cap L) (hp : 0 < L.length) : ∃ b off, A = some ⟨b, off, none⟩ ∧ b < w.heap.size ∧ IRow w b off L := by
  obtain ⟨b, off, h1, _, h2, h3⟩ := h.2.2 hp
  exact ⟨b, off, h1, h2, h3⟩
theorem ISl.next {w w' : World} {A : Option Addr} {cap : Nat} {L : List Nat} (h : ISl w 0 A cap L) (hb : Below w.heap.size w w') : ISl w' 0 A cap L := by
  refine ⟨h.1, h.2.1, fun hp => ?_⟩
  obtain ⟨b, off, h1, h0, h2, h3⟩ := h.2.2 hp
  exact ⟨b, off, h1, h0, Nat.lt_of_lt_of_le h2 hb.size, fun j hj => ⟨(hb.cell (p := ⟨_, _, none⟩) h2).trans (h3 j hj).1, (hb.frozen (p := ⟨_, _, none⟩) h2).trans (h3 j hj).2⟩⟩
theorem near2_zero (e : Int) : (near2 0 e).1 = 0 := by
  unfold near2
  split
  · exact rhe_nil _
  · rfl
theorem pNear_def (neg : Bool) (n : Nat) (e : Int) (n1 n2 : Nat) (e1 e2 : Int) (h1 : near1 n e = (n1, e1)) (h2 : near2 n1 e1 = (n2, e2)) : pNear neg n e = nearEnd neg (pTrim n2 e2).1 (pTrim n2 e2).2 := by
  unfold pNear
  rw [h1]
  simp only [h2]
theorem lead_pos {L : List Nat} (h : Lead L) (hp : 0 < L.length) : 0 < natOf L := by
  cases L with
  | nil => simp at hp
  | cons d t => exact Nat.lt_of_lt_of_le (Nat.pow_pos (by decide)) (natOf_ge d t (h d t rfl))
/-- a decimal in its box, and the result's block -/
structure NIn (w : World) (neg : Bool) (v : Value) (e : Int) (w' : World) : Prop where
  box : Lies w' w.heap.size 59 #[.bool neg, v, .int .i64 e]
  res : Lies w' (w.heap.size + 1) 33 #[.int .i64 0, .int .i64 0]
  bel : Below w.heap.size w w'
theorem NIn.next {w w' w'' : World} {neg : Bool} {v : Value} {e : Int} (h : NIn w neg v e w') (hb : Below w'.heap.size w' w'') : NIn w neg v e w'' :=
  ⟨(hb.block _ h.box.lt).trans h.box, (hb.block _ h.res.lt).trans h.res, h.bel.trans (hb.mono h.bel.size)⟩
set_option maxRecDepth 100000 in
set_option maxHeartbeats 12800000 in
theorem rNear_bare (neg : Bool) (A : Option Addr) (cap : Nat) (L : List Nat) (e : Int) (w : World) (hs : ISl w 0 A cap L) (hd : Dig L) (hbl : (bareL L).length ≤ 1000) (he1 : -2000000 ≤ e) (he2 : e ≤ 2000000) :
    Calls Tryz.prog 24 #[.agg #[.bool neg, .slice A L.length cap, .int .i64 e], .bool false] w fun x w' => x = .returned (numOut (pNear neg (natOf L) e)) ∧ Below w.heap.size w w' := by
  obtain ⟨out, hout⟩ : ∃ out, numOut (pNear neg (natOf L) e) = out := ⟨_, rfl⟩
  rw [hout]
  have HN0 : Hid (natOf (bareL L) = natOf L) := Lib.hid (bareL_nat L)
  have HOut := Lib.hid hout
  have HI0 : Hid (NIn w neg (.slice A L.length cap) e ((w.alloc (.cells #[.bool neg, .slice A L.length cap, .int .i64 e] 59)).alloc (.cells #[.int .i64 0, .int .i64 0] 33))) := Lib.hid ⟨(Lies.new _ _ _).alloc _, by have := Lies.new (w.alloc (.cells #[.bool neg, .slice A L.length cap, .int .i64 e] 59)) 33 #[.int .i64 0, .int .i64 0]; simpa using this, ((Below.refl _ w).alloc (Nat.le_refl _) _).alloc (by simp) _⟩
  have HS0 : Hid (ISl ((w.alloc (.cells #[.bool neg, .slice A L.length cap, .int .i64 e] 59)).alloc (.cells #[.int .i64 0, .int .i64 0] 33)) 0 A cap L) := Lib.hid (hs.next (((Below.refl _ w).alloc (Nat.le_refl _) _).alloc (by simp) _))
  have HLd := Lib.hid (lead_bare L)
  have HDg := Lib.hid (bareL_dig hd)
  generalize natOf L = N at *
  clear hout hs hd
  go_enter Tryz.func24, Tryz.ntmps24
  go_wp2_with fail
  refine (strip_at A cap _ L _ rfl HS0.out).mono ?_
  rintro x w' ⟨A1, cap1, rfl, hs1, rfl, -⟩
  have HS1 := Lib.hid hs1
  clear hs1 HS0
  generalize bareL L = L1 at *
  have HDL : Hid (dlen N = L1.length) := Lib.hid (by rw [← HN0.out]; exact lead_len HLd.out HDg.out)
  go_upto_if 19 with fail
  go_cut [6, 7] (fun v6 v7 wx => ∃ (L2 : List Nat) (A2 : Option Addr) (c2 n2 : Nat) (e2 : Int), v6 = .slice A2 n2 c2 ∧ v7 = .int .i64 e2 ∧ Hid (L2.length = n2) ∧ Hid (ISl wx 0 A2 c2 L2) ∧ Hid (Dig L2) ∧ Hid (Lead L2) ∧ Hid (near1 N e = (natOf L2, e2)) ∧ Hid (NIn w neg (.slice A L.length cap) e wx) ∧ -2000000 ≤ e2 ∧ e2 ≤ 2001000 ∧ n2 ≤ 1001)
  case first =>
    by_cases h15 : 15 < L1.length
    · have hnear : Hid (near1 N e = (rhe N (L1.length - 15), e + ((L1.length : Int) - 15))) := Lib.hid (by
        unfold near1
        rw [HDL.out, if_pos h15]
        congr 1
        omega)
      obtain ⟨b, off, rfl, hb1, hrow⟩ := HS1.out.row (by omega)
      obtain ⟨k, hk⟩ : ∃ k, L1.length = 15 + k := ⟨L1.length - 15, by omega⟩
      have hkk : Hid ((L1.length : Int) - 15 = (k : Int)) := Lib.hid (by omega)
      have HK := Lib.hid hk
      have HC1 := Lib.hid HS1.out.1
      have HC2 := Lib.hid HS1.out.2.1
      have HRow := Lib.hid hrow
      have HB1 := Lib.hid hb1
      have hk1 : 0 < k := by omega
      clear hrow hb1 hk
      go_wp2_with fail
      rw [hkk.out]
      refine (rcut_some b off cap1 15 L1 k _ HRow.out HB1.out HC1.out HC2.out HDg.out hk1 HK.out (by omega)).mono ?_
      rintro x w2 ⟨A2, c2, ds2, rfl, hs2, hd2, hn2, hl2, hlen2, hb2⟩
      have HI2 := Lib.hid (HI0.out.next hb2)
      have HS2 := Lib.hid hs2
      have HD2 := Lib.hid hd2
      have HL2 := Lib.hid (hl2 HLd.out)
      have HN2 : Hid (near1 N e = (natOf ds2, e + (k : Int))) := Lib.hid (by rw [hnear.out, hn2, HN0.out, ← hkk.out]; congr 2; have := HK.out; omega)
      have hkb : (k : Int) ≤ 985 := by have := HK.out; omega
      clear hs2 hd2 hn2 hl2 hb2 hkk
      go_wp2_with fail
      go_meet
      exact ⟨ds2, A2, c2, ds2.length, e + (k : Int), rfl, rfl, Lib.hid rfl, HS2, HD2, HL2, HN2, HI2, by omega, by omega, by omega⟩
    · have hnear : Hid (near1 N e = (natOf L1, e)) := Lib.hid (by
        unfold near1
        rw [HDL.out, if_neg h15, HN0.out])
      go_wp2_with fail
      go_meet
      exact ⟨L1, A1, cap1, L1.length, e, rfl, rfl, Lib.hid rfl, HS1, HDg, HLd, hnear, HI0, by omega, by omega, by omega⟩
  case rest =>
    obtain ⟨L2, A2, c2, n2, e2, rfl, rfl, hn2, HS2, HD2, HL2, HN2, HI2, hf1, hf2, hn2k⟩ := hcut
    clear HDL HN0 HLd HI0 HDg hbl HS1
    go_upto_region 7 with fail
    go_cut [36] (fun v wx => v = .bool (decide (e2 < -40) && decide (0 < n2)) ∧ wc = wx)
    case first =>
      by_cases h40 : e2 < -40
      · go_wp2_with fail
        go_meet
        exact ⟨by rw [decide_eq_true h40]; simp, rfl⟩
      · go_wp2_with fail
        go_meet
        exact ⟨by rw [decide_eq_false (by omega : ¬ e2 < -40)]; rfl, rfl⟩
    case rest =>
      obtain ⟨rfl, rfl⟩ := hcut
      go_upto_if 36 with fail
      go_cut [6, 7] (fun v6 v7 wx => ∃ (L3 : List Nat) (A3 : Option Addr) (c3 n3 : Nat) (e3 : Int), v6 = .slice A3 n3 c3 ∧ v7 = .int .i64 e3 ∧ Hid (L3.length = n3) ∧ Hid (ISl wx 0 A3 c3 L3) ∧ Hid (Dig L3) ∧ Hid (Lead L3) ∧ Hid (pNear neg N e = nearEnd neg (pTrim (natOf L3) e3).1 (pTrim (natOf L3) e3).2) ∧ Hid (natOf L3 ≤ 1000000000000000) ∧ Hid (NIn w neg (.slice A L.length cap) e wx) ∧ -2000000 ≤ e3 ∧ e3 ≤ 2001000 ∧ n3 ≤ 1002)
      case first =>
        have HBd1 : Hid (natOf L2 ≤ 1000000000000000) := Lib.hid (by have h1 := near1_bd N e; rw [HN2.out] at h1; exact h1)
        by_cases hc : e2 < -40 ∧ 0 < n2
        · obtain ⟨h40, hp⟩ := hc
          obtain ⟨k, hk⟩ : ∃ k : Nat, (k : Int) = -40 - e2 := ⟨(-40 - e2).toNat, by omega⟩
          have hnear : Hid (near2 (natOf L2) e2 = (rhe (natOf L2) k, -40)) := Lib.hid (by
            unfold near2
            rw [if_pos h40]
            congr 2
            omega)
          have hk0 : 0 < k := by omega
          have HKK : Hid (-40 - e2 = (k : Int)) := Lib.hid hk.symm
          have hkb : (k : Int) ≤ 2000000 := by omega
          have HBd2 : Hid (rhe (natOf L2) k ≤ 1000000000000000) := Lib.hid (by have h1 := (near2_bd _ e2 HBd1.out).1; rw [hnear.out] at h1; exact h1)
          have hc : ∀ W, ISl W 0 A2 c2 L2 → Calls Tryz.prog 53 #[.slice A2 L2.length c2, .int .i64 (k : Int), .bool false] W fun e w' => RCutPost L2 k W e w' := by
            intro W hW
            by_cases hle : k ≤ L2.length
            · obtain ⟨b, off, hA2, hb1, hrow⟩ := hW.row (by rw [hn2.out]; exact hp)
              rw [hA2]
              exact rcut_some b off c2 (L2.length - k) L2 k W hrow hb1 hW.1 hW.2.1 HD2.out hk0 (by omega) (by rw [hn2.out]; omega)
            · exact rcut_all A2 c2 L2 k W HD2.out (by omega)
          rw [hn2.out] at hc
          have HC := Lib.hid hc
          clear hk hc
          go_wp2_with fail
          rw [HKK.out]
          refine (HC.out _ HS2.out).mono ?_
          rintro x w3 ⟨A3, c3, ds3, rfl, hs3, hd3, hn3, hl3, hlen3, hb3⟩
          have HI3 := Lib.hid (HI2.out.next hb3)
          have HS3 := Lib.hid hs3
          have HD3 := Lib.hid hd3
          have HL3 := Lib.hid (hl3 HL2.out)
          have HP3 : Hid (pNear neg N e = nearEnd neg (pTrim (natOf ds3) (-40)).1 (pTrim (natOf ds3) (-40)).2) := Lib.hid (by rw [hn3]; exact pNear_def neg N e _ _ _ _ HN2.out hnear.out)
          have HB3 : Hid (natOf ds3 ≤ 1000000000000000) := Lib.hid (by rw [hn3]; exact HBd2.out)
          have hl3k : ds3.length ≤ 1002 := by rw [hn2.out] at hlen3; omega
          clear hs3 hd3 hn3 hl3 hlen3 hb3 HC HKK
          go_wp2_with fail
          go_meet
          exact ⟨ds3, A3, c3, ds3.length, -40, rfl, rfl, Lib.hid rfl, HS3, HD3, HL3, HP3, HB3, HI3, by omega, by omega, hl3k⟩
        · have hP : Hid (pNear neg N e = nearEnd neg (pTrim (natOf L2) e2).1 (pTrim (natOf L2) e2).2) := Lib.hid (by
            by_cases h40 : e2 < -40
            · have h0 : L2.length = 0 := by rw [hn2.out]; omega
              have hz : natOf L2 = 0 := by rw [List.eq_nil_of_length_eq_zero h0]; rfl
              have h2 : near2 0 e2 = (0, -40) := by unfold near2; rw [if_pos h40, rhe_nil]
              rw [pNear_def neg N e _ 0 _ (-40) HN2.out (by rw [hz]; exact h2), hz, pTrim_zero, pTrim_zero]
            · exact pNear_def neg N e _ _ _ _ HN2.out (if_neg h40))
          have hb : (decide (e2 < -40) && decide (0 < n2)) = false := by
            rw [Bool.and_eq_false_iff, decide_eq_false_iff_not, decide_eq_false_iff_not]
            omega
          rw [hb]
          clear hb hc
          go_wp2_with fail
          go_meet
          exact ⟨L2, A2, c2, n2, e2, rfl, rfl, hn2, HS2, HD2, HL2, hP, HBd1, HI2, by omega, by omega, by omega⟩
      case rest =>
        obtain ⟨L3, A3, c3, n3, e3, rfl, rfl, hn3, HS3, HD3, HL3, HP3, HB3, HI3, hg1, hg2, hn3k⟩ := hcut
        clear HN2 HL2 HD2 HS2 HI2 hn2 hf1 hf2 hn2k he1 he2
        go_wp2_with fail
        go_loop [6, 7] (fun v6 v7 => ∃ (m : Nat) (f : Int), v6 = .slice A3 m c3 ∧ v7 = .int .i64 f ∧ m ≤ n3 ∧ Hid (f + (m : Int) = e3 + (n3 : Int)) ∧ Hid (pTrim (natOf L3) e3 = pTrim (natOf (L3.take m)) f)) (fun v _ => match v with | .slice _ n _ => n | _ => 0)
        case atStart => exact ⟨n3, e3, rfl, rfl, Nat.le_refl _, Lib.hid rfl, Lib.hid (by rw [List.take_of_length_le (by rw [hn3.out]; exact Nat.le_refl _)])⟩
        case round =>
          obtain ⟨m, f, rfl, rfl, hm, hf, hq⟩ := hrel
          have hfb : f ≤ 2003000 := by have := hf.out; omega
          have hfa : -2003000 ≤ f := by have := hf.out; omega
          have r0 := HI3.out.res.cell 0
          have r1 := HI3.out.res.cell 1
          have s0 := HI3.out.res.frozen 0
          have s1 := HI3.out.res.frozen 1
          have bx := HI3.out.box.cell 0
          simp at r0 r1 bx
          have HB := Lib.hid HI3.out.bel
          cases m with
          | zero =>
            have hz : Hid (pNear neg N e = some (0, 0)) := Lib.hid (by rw [HP3.out, hq.out]; rfl)
            clear hq
            go_wp2_with fail
            refine bodyPost_ret (v := .tuple #[.agg #[.int .i64 0, .int .i64 0], .bool true]) (by simp [results, Tryz.results24, go_sem, r0, r1]) rfl ?_
            exact ⟨by rw [← HOut.out, hz.out]; rfl, (HB.out.setCell (p := ⟨w.heap.size + 1, 0, none⟩) (by show w.heap.size ≤ w.heap.size + 1; omega) _).setCell (p := ⟨w.heap.size + 1, 1, none⟩) (by show w.heap.size ≤ w.heap.size + 1; omega) _⟩
          | succ p =>
            have hpL : p < L3.length := by rw [hn3.out]; omega
            obtain ⟨b, off, rfl, hb1, hrow⟩ := HS3.out.row (by omega)
            have HRow := Lib.hid hrow
            have y0 := (hrow p hpL).1
            unfold intV at y0
            have hy9 : L3[p] ≤ 9 := HD3.out _ (List.getElem_mem _)
            have hsn : natOf (L3.take (p + 1)) = 10 * natOf (L3.take p) + L3[p] := by rw [List.take_succ_eq_append_getElem hpL, natOf_snoc]
            have hcc : p + 1 ≤ c3 := by have := HS3.out.1; rw [hn3.out] at this; omega
            clear hrow hb1
            by_cases h0 : L3[p] = 0
            · have hpos : 0 < natOf (L3.take p) := by
                rcases Nat.eq_zero_or_pos p with z | z
                · subst z
                  exfalso
                  have h1 := HL3.out.take 1
                  rw [List.take_succ_eq_append_getElem hpL] at h1
                  exact h1 L3[0] [] rfl h0
                · exact lead_pos (HL3.out.take p) (by rw [List.length_take]; omega)
              have hq2 : Hid (pTrim (natOf L3) e3 = pTrim (natOf (L3.take p)) (f + 1)) := Lib.hid (by
                rw [hq.out, pTrim_step _ f (by omega) (by omega), hsn, h0]
                congr 1
                omega)
              have hf2 : Hid (f + 1 + (p : Int) = e3 + (n3 : Int)) := Lib.hid (by have := hf.out; omega)
              rw [h0] at y0
              clear hq hsn hpos h0 hy9
              go_wp2_with fail
              go_round
              case rel => exact ⟨p, f + 1, rfl, rfl, by omega, hf2, hq2⟩
              case measure => simp
            · have b0 : ((L3[p] : Int) == 0) = false := by rw [beq_eq_false_iff_ne]; omega
              have hMp : 0 < natOf (L3.take (p + 1)) := lead_pos (HL3.out.take (p + 1)) (by rw [List.length_take]; omega)
              have hMl : dlen (natOf (L3.take (p + 1))) = p + 1 := by rw [lead_len (HL3.out.take _) (HD3.out.take _), List.length_take]; omega
              have hE : Hid (pNear neg N e = nearEnd neg (natOf (L3.take (p + 1))) f) := Lib.hid (by rw [HP3.out, hq.out, pTrim_stop _ f (by omega)])
              have hMb : Hid (natOf (L3.take (p + 1)) ≤ 1000000000000000) := Lib.hid (Nat.le_trans (natOf_take_le L3 (p + 1)) HB3.out)
              unfold nearEnd at hE
              rw [if_neg (by omega), hMl] at hE
              clear hq hsn h0 hy9 HP3 hMl hMp
              by_cases h40 : 40 < ((p + 1 : Nat) : Int) + f
              · rw [if_pos h40] at hE
                have h41 : 40 < (p : Int) + 1 + f := by omega
                clear h40
                go_wp2_with fail
                refine bodyPost_ret (v := .tuple #[.agg #[.int .i64 0, .int .i64 0], .bool false]) (by simp [results, Tryz.results24, go_sem, r0, r1]) rfl ?_
                exact ⟨by rw [← HOut.out, hE.out]; rfl, (HB.out.setCell (p := ⟨w.heap.size + 1, 0, none⟩) (by show w.heap.size ≤ w.heap.size + 1; omega) _).setCell (p := ⟨w.heap.size + 1, 1, none⟩) (by show w.heap.size ≤ w.heap.size + 1; omega) _⟩
              · rw [if_neg h40] at hE
                have h41 : ¬ 40 < (p : Int) + 1 + f := by omega
                clear h40
                go_wp2_with fail
                go_loop [10, 11] (fun v i => ∃ (j x : Nat), v = .int .i64 x ∧ i = .int .i64 j ∧ j ≤ p + 1 ∧ Hid (x = natOf (L3.take j))) (fun _ i => p + 1 - (intOf i).toNat)
                case atStart => exact ⟨0, 0, rfl, rfl, Nat.zero_le _, Lib.hid (by simp [natOf])⟩
                case round =>
                  obtain ⟨j, x, rfl, rfl, hj, hx⟩ := hrel
                  by_cases hlt : j < p + 1
                  · have hjL : j < L3.length := by omega
                    have z0 := (HRow.out j hjL).1
                    unfold intV at z0
                    have hz9 : L3[j] ≤ 9 := HD3.out _ (List.getElem_mem _)
                    have hx2 : Hid (10 * x + L3[j] = natOf (L3.take (j + 1))) := Lib.hid (by rw [List.take_succ_eq_append_getElem hjL, natOf_snoc, ← hx.out])
                    have hxb : (x : Int) ≤ 1000000000000000 := by
                      have h1 := natOf_take_le L3 j
                      have h2 := HB3.out
                      have h3 := hx.out
                      omega
                    generalize L3[j] = y at *
                    have HC : Hid (10 * (x : Int) + (y : Int) = ((10 * x + y : Nat) : Int)) := Lib.hid (by omega)
                    have hlt2 : (j : Int) < (p : Int) + 1 := by omega
                    clear hjL
                    go_wp2_with fail
                    go_round
                    case rel => exact ⟨j + 1, 10 * x + y, by rw [← HC.out], by go_num, by omega, hx2⟩
                    case measure => simp [intOf]; omega
                  · have hxe : Hid (x = natOf (L3.take (p + 1))) := Lib.hid (by rw [hx.out, show j = p + 1 by omega])
                    have hxb : (x : Int) ≤ 1000000000000000 := by have h1 := hMb.out; have h2 := hxe.out; omega
                    have hlt2 : ¬ (j : Int) < (p : Int) + 1 := by omega
                    rw [← hxe.out] at hE
                    clear hx
                    cases neg
                    · go_wp2_with fail
                      refine bodyPost_ret (v := .tuple #[.agg #[.int .i64 x, .int .i64 f], .bool true]) (by simp [results, Tryz.results24, go_sem, r0, r1]) rfl ?_
                      exact ⟨by rw [← HOut.out, hE.out]; rfl, (HB.out.setCell (p := ⟨w.heap.size + 1, 0, none⟩) (by show w.heap.size ≤ w.heap.size + 1; omega) _).setCell (p := ⟨w.heap.size + 1, 1, none⟩) (by show w.heap.size ≤ w.heap.size + 1; omega) _⟩
                    · go_wp2_with fail
                      refine bodyPost_ret (v := .tuple #[.agg #[.int .i64 (-(x : Int)), .int .i64 f], .bool true]) (by simp [results, Tryz.results24, go_sem, r0, r1]) rfl ?_
                      exact ⟨by rw [← HOut.out, hE.out]; rfl, (HB.out.setCell (p := ⟨w.heap.size + 1, 0, none⟩) (by show w.heap.size ≤ w.heap.size + 1; omega) _).setCell (p := ⟨w.heap.size + 1, 1, none⟩) (by show w.heap.size ≤ w.heap.size + 1; omega) _⟩
theorem rNear_any (neg : Bool) (A : Option Addr) (cap : Nat) (L : List Nat) (e : Int) (w : World) (hs : ISl w 0 A cap L) (hd : Dig L) (hl : L.length ≤ 1000) (he1 : -2000000 ≤ e) (he2 : e ≤ 2000000) :
    Calls Tryz.prog 24 #[.agg #[.bool neg, .slice A L.length cap, .int .i64 e], .bool false] w fun x w' => x = .returned (numOut (pNear neg (natOf L) e)) ∧ Below w.heap.size w w' :=
  rNear_bare neg A cap L e w hs hd (Nat.le_trans (bareL_len L) hl) he1 he2
end Go.Proofs.YtpdaloohgfnbhaaGreatDoor
