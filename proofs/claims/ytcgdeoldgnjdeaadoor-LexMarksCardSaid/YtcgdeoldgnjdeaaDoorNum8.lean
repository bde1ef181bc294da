/-
  num.round: what it returns.
-/
import Derived.Test.YtcgdeoldgnjdeaaDoorNum7
import Derived.Test.YtcgdeoldgnjdeaaDoorPlainY
namespace Go.Proofs.YtcgdeoldgnjdeaaDoor
open Go.RowKit

/-- a number, or none -/
def numOut (p : Option (Int × Int)) : Value := match p with | none => .tuple #[numV 0 0, .bool false] | some q => .tuple #[numV q.1 q.2, .bool true]
/-- the digits that round has, on its way -/
structure Mid (base R : Nat) (w wx : World) (A : Option Addr) (cap : Nat) (L : List Nat) : Prop where
  sl : BSl wx base A cap L
  dig : Dig L
  res : Lies wx R 39 #[.int .i64 0, .int .i64 0]
  ne : ∀ a, A = some a → a.block ≠ R
  bel : Below base w wx
  len : L.length ≤ 1000
theorem natOf_take_le (L : List Nat) (k : Nat) : natOf (L.take k) ≤ natOf L := by
  have h := natOf_append (L.take k) (L.drop k)
  rw [List.take_append_drop] at h
  have : natOf (L.take k) * 1 ≤ natOf (L.take k) * 10 ^ (L.drop k).length := Nat.mul_le_mul_left _ (Nat.pow_pos (by decide))
  omega
theorem mid_cut {base R b off cap n : Nat} {w wx w2 : World} {L ds2 : List Nat} {A2 : Option Addr} {c2 : Nat} (h : Mid base R w wx (some ⟨b, off, none⟩) cap L) (hb : base ≤ b) (hbx : b < wx.heap.size) (hs : BSl w2 base A2 c2 ds2) (hd : Dig ds2) (hk : Kept b wx.heap.size wx w2) (ha : ∀ a, A2 = some a → a.block = b ∨ wx.heap.size ≤ a.block) (hl : ds2.length ≤ n + 1) (hn : n ≤ 999) : Mid base R w w2 A2 c2 ds2 := by
  have hR := h.res.lt
  have hne : R ≠ b := fun e => h.ne _ rfl e.symm
  refine ⟨hs, hd, h.res.kept hk hR hne, fun a e => ?_, h.bel.trans (hk.below hb hbx), by omega⟩
  rcases ha a e with g | g <;> omega
set_option maxRecDepth 100000 in
set_option maxHeartbeats 6400000 in
theorem round_any (neg : Bool) (A : Option Addr) (cap base : Nat) (ds : List Nat) (e : Int) (w : World) (hs : BSl w base A cap ds) (hbase : base ≤ w.heap.size) (hA0 : ∀ a, A = some a → a.block < w.heap.size) (hd : Dig ds) (hl : ds.length ≤ 1000) (he1 : -2000000 ≤ e) (he2 : e ≤ 2000000) :
    Calls Tryd.prog 102 #[.bool neg, .slice A ds.length cap, .int .i64 e] w fun x w' => x = .returned (numOut (pNear neg (natOf ds) e)) ∧ Below base w w' := by
  have hN : natOf (bareL ds) = natOf ds := bareL_nat ds
  have HN := Lib.hid hN
  have HLd := Lib.hid (lead_bare ds)
  have HDg := Lib.hid (bareL_dig hd)
  have hbl : (bareL ds).length ≤ 1000 := Nat.le_trans (bareL_len ds) hl
  have HS1 : Hid (∀ o, BSl (w.alloc o) base A cap ds) := Lib.hid (fun o => by
    obtain ⟨a1, a2, a3⟩ := hs
    refine ⟨a1, a2, fun hp => ?_⟩
    obtain ⟨b, off, q1, q2, q3, q4⟩ := a3 hp
    exact ⟨b, off, q1, q2, by simp; omega, fun j hj => ⟨(World.cell?_alloc_past _ _ _ q3).trans (q4 j hj).1, (World.frozen?_alloc_past _ _ _ q3).trans (q4 j hj).2⟩⟩)
  have HA0 := Lib.hid hA0
  generalize natOf ds = N at *
  obtain ⟨out, hout⟩ : ∃ out, numOut (pNear neg N e) = out := ⟨_, rfl⟩
  rw [hout]
  have HOut := Lib.hid hout
  clear hN hs hd hA0 hl hout
  go_enter Tryd.func102, Tryd.ntmps102
  go_wp2_with fail
  refine (bare_any A cap base ds _ (HS1.out _)).mono ?_
  rintro x w' ⟨A1, cap1, rfl, hB1, rfl, hA1⟩
  have HM : Hid (Mid base w.heap.size w (w.alloc (.cells #[.int .i64 0, .int .i64 0] 39)) A1 cap1 (bareL ds)) := Lib.hid ⟨hB1, HDg.out, Lies.new _ _ _, fun a h => by
    obtain ⟨a0, h1, h2⟩ := hA1 a h
    have := HA0.out a0 h1
    omega, (Below.refl _ _).alloc hbase _, hbl⟩
  clear hB1 hA1 HA0 HS1 HDg
  generalize bareL ds = L at *
  by_cases h0 : L.length = 0
  · have hN0 : Hid (pNear neg N e = some (0, 0)) := Lib.hid (by
      rw [← HN.out, List.eq_nil_of_length_eq_zero h0]
      exact pNear_zero neg e)
    have HB := Lib.hid HM.out.bel
    generalize L.length = l at *
    subst h0
    clear HM HN
    go_wp2_with fail
    refine bodyPost_ret (v := .tuple #[.agg #[.int .i64 0, .int .i64 0], .bool true]) (by simp [results, Tryd.results102, go_sem]) rfl ?_
    exact ⟨by rw [← HOut.out, hN0.out]; rfl, (Below.refl _ _).alloc hbase _⟩
  have b0 : ((L.length : Int) == 0) = false := by rw [beq_eq_false_iff_ne]; omega
  have hpos : 0 < L.length := by omega
  clear h0
  have HP : Hid (0 < N) := Lib.hid (by
    rw [← HN.out]
    cases L with
    | nil => simp at hpos
    | cons d t => exact Nat.lt_of_lt_of_le (Nat.pow_pos (by decide)) (natOf_ge d t (HLd.out d t rfl)))
  by_cases h40 : 40 ≤ e
  · have hN0 : Hid (pNear neg N e = none) := Lib.hid (pNear_high neg N e HP.out h40)
    clear HM HN
    go_wp2_with fail
    refine bodyPost_ret (v := .tuple #[.agg #[.int .i64 0, .int .i64 0], .bool false]) (by simp [results, Tryd.results102, go_sem]) rfl ?_
    exact ⟨by rw [← HOut.out, hN0.out]; rfl, (Below.refl _ _).alloc hbase _⟩
  have HDL : Hid (dlen N = L.length) := Lib.hid (by rw [← HN.out]; exact lead_len HLd.out HM.out.dig)
  go_upto_if 27 with fail
  go_cut [1, 2] (fun v1 v2 wx => ∃ (L1 : List Nat) (A2 : Option Addr) (c1 n1 : Nat) (e1 : Int), v1 = .slice A2 n1 c1 ∧ v2 = .int .i64 e1 ∧ Hid (L1.length = n1) ∧ Hid (Mid base w.heap.size w wx A2 c1 L1) ∧ Hid (Lead L1) ∧ Hid (near1 N e = (natOf L1, e1)) ∧ -2000000 ≤ e1 ∧ e1 ≤ 2001000 ∧ n1 ≤ 1000)
  case first =>
    by_cases h15 : 15 < L.length
    · have hnear : Hid (near1 N e = (rhe N (L.length - 15), e + ((L.length : Int) - 15))) := Lib.hid (by
        unfold near1
        rw [HDL.out, if_pos h15]
        congr 1
        omega)
      obtain ⟨b, off, rfl, hb1, hb2, hrow⟩ := HM.out.sl.2.2 hpos
      have hcl := Lib.hid HM.out.sl.1
      have hcm := Lib.hid HM.out.sl.2.1
      have HRow := Lib.hid hrow
      have HB2 := Lib.hid hb2
      clear hrow hb2
      go_wp2_with fail
      refine (cut_any b off cap1 base 15 L _ HRow.out hb1 HB2.out hcl.out hcm.out (by omega) h15 HM.out.dig).mono ?_
      rintro x w2 ⟨A2, c2, ds2, rfl, hs2, hd2, hn2, hl2, hlen2, hk2, ha2⟩
      have HM2 := Lib.hid (mid_cut HM.out hb1 HB2.out hs2 hd2 hk2 ha2 hlen2 (by omega))
      have HL2 := Lib.hid (hl2 HLd.out)
      have HN2 : Hid (near1 N e = (natOf ds2, e + ((L.length : Int) - 15))) := Lib.hid (by rw [hnear.out, hn2, HN.out])
      clear hs2 hd2 hn2 hl2 hk2 ha2
      go_wp2_with fail
      go_meet
      exact ⟨ds2, A2, c2, ds2.length, e + ((L.length : Int) - 15), rfl, rfl, Lib.hid rfl, HM2, HL2, HN2, by omega, by omega, by omega⟩
    · have hnear : Hid (near1 N e = (natOf L, e)) := Lib.hid (by
        unfold near1
        rw [HDL.out, if_neg h15, HN.out])
      go_wp2_with fail
      go_meet
      exact ⟨L, A1, cap1, L.length, e, rfl, rfl, Lib.hid rfl, HM, HLd, hnear, by omega, by omega, hbl⟩
  case rest =>
    obtain ⟨L1, A2, c1, n1, e1, rfl, rfl, hn1, HM1, HL1, HN1, hf1, hf2, hn1k⟩ := hcut
    clear HDL HN HLd HM b0 hpos hbl
    go_upto_if 34 with fail
    go_cut [1, 2] (fun v1 v2 wx => ∃ (L2 : List Nat) (A3 : Option Addr) (c2 n2 : Nat) (e2 : Int), v1 = .slice A3 n2 c2 ∧ v2 = .int .i64 e2 ∧ Hid (L2.length = n2) ∧ Hid (Mid base w.heap.size w wx A3 c2 L2) ∧ Hid (near2 (natOf L1) e1 = (natOf L2, e2)) ∧ -40 ≤ e2 ∧ e2 ≤ 2001000 ∧ n2 ≤ 1000)
    case first =>
      by_cases hlow : e1 < -40
      · by_cases hdrop : (n1 : Int) < -40 - e1
        · have hz : Hid (pNear neg N e = some (0, 0)) := Lib.hid (by
            have h2 : near2 (natOf L1) e1 = (0, -40) := by
              unfold near2
              rw [if_pos hlow, rhe_big]
              rw [lead_len HL1.out HM1.out.dig, hn1.out]
              omega
            rw [pNear_is neg N e _ _ _ _ HN1.out h2, pTrim_zero]
            cases neg <;> rfl)
          have q0 := HM1.out.res.cell 0
          have q1 := HM1.out.res.cell 1
          have g0 := HM1.out.res.frozen 0
          have g1 := HM1.out.res.frozen 1
          simp at q0 q1
          have HB := Lib.hid HM1.out.bel
          clear HM1 HN1 HL1 hn1
          go_wp2_with fail
          refine bodyPost_ret (v := .tuple #[.agg #[.int .i64 0, .int .i64 0], .bool true]) (by simp [results, Tryd.results102, go_sem, q0, q1]) rfl ?_
          exact ⟨by rw [← HOut.out, hz.out]; rfl, (HB.out.setCell (p := ⟨w.heap.size, 0, none⟩) hbase _).setCell (p := ⟨w.heap.size, 1, none⟩) hbase _⟩
        · obtain ⟨d, hdd⟩ : ∃ d : Nat, (d : Int) = -40 - e1 := ⟨(-40 - e1).toNat, by omega⟩
          have hdn : d ≤ n1 := by omega
          have hnear : Hid (near2 (natOf L1) e1 = (rhe (natOf L1) d, -40)) := Lib.hid (by
            unfold near2
            rw [if_pos hlow]
            congr 2
            omega)
          have hp1 : 0 < n1 := by omega
          obtain ⟨b, off, rfl, hb1, hb2, hrow⟩ := HM1.out.sl.2.2 (by rw [hn1.out]; exact hp1)
          have hcl := Lib.hid HM1.out.sl.1
          have hcm := Lib.hid HM1.out.sl.2.1
          have HRow := Lib.hid hrow
          have HB2 := Lib.hid hb2
          have hd1 : 1 ≤ d := by omega
          have HDD := Lib.hid hdd
          have hkk : Hid ((n1 : Int) - (-40 - e1) = ((n1 - d : Nat) : Int)) := Lib.hid (by omega)
          clear hrow hb2 hdd
          go_wp2_with fail
          rw [hkk.out]
          have hc := fun W h1 h2 => cut_any b off c1 base (n1 - d) L1 W h1 hb1 h2 hcl.out hcm.out (by omega) (by rw [hn1.out]; omega) HM1.out.dig
          rw [hn1.out] at hc
          refine (hc _ HRow.out HB2.out).mono ?_
          clear hc
          rintro x w2 ⟨A3, c2, ds2, rfl, hs2, hd2, hn2, hl2, hlen2, hk2, ha2⟩
          have HM2 := Lib.hid (mid_cut HM1.out hb1 HB2.out hs2 hd2 hk2 ha2 hlen2 (by omega))
          have HN2 : Hid (near2 (natOf L1) e1 = (natOf ds2, -40)) := Lib.hid (by rw [hnear.out, hn2, hn1.out, show n1 - (n1 - d) = d by omega])
          clear hs2 hd2 hn2 hl2 hk2 ha2
          go_wp2_with fail
          go_meet
          exact ⟨ds2, A3, c2, ds2.length, -40, rfl, rfl, Lib.hid rfl, HM2, HN2, by omega, by omega, by omega⟩
      · have hnear : Hid (near2 (natOf L1) e1 = (natOf L1, e1)) := Lib.hid (if_neg hlow)
        go_wp2_with fail
        go_meet
        exact ⟨L1, A2, c1, n1, e1, rfl, rfl, hn1, HM1, hnear, by omega, by omega, hn1k⟩
    case rest =>
      obtain ⟨L2, A3, c2, n2, e2, rfl, rfl, hn2, HM2, HN2, hg1, hg2, hn2k⟩ := hcut
      have HI := Lib.hid (pNear_is neg N e _ _ _ _ HN1.out HN2.out)
      have HBd : Hid (natOf L2 ≤ 1000000000000000) := Lib.hid (by
        have h1 := near1_bd N e
        rw [HN1.out] at h1
        have h2 := (near2_bd _ e1 h1).1
        rw [HN2.out] at h2
        exact h2)
      clear HN1 HN2 HL1 HM1 hn1 HP h40 hf1 hf2 he1 he2 hn1k
      go_wp2_with fail
      go_loop [10, 50] (fun v i => ∃ (k x : Nat), v = .int .u64 x ∧ i = .int .i64 k ∧ k ≤ n2 ∧ Hid (x = natOf (L2.take k))) (fun _ i => n2 - (intOf i).toNat)
      case atStart => exact ⟨0, 0, rfl, rfl, Nat.zero_le _, Lib.hid (by simp [natOf])⟩
      case round =>
        obtain ⟨k, x, rfl, rfl, hk, hx⟩ := hrel
        by_cases hlt : k < n2
        · have hlt2 : k < L2.length := by rw [hn2.out]; exact hlt
          obtain ⟨b, off, rfl, -, -, hrow⟩ := HM2.out.sl.2.2 (by omega)
          have y0 := (hrow k hlt2).1
          unfold byteV at y0
          have hy9 : L2[k] ≤ 9 := HM2.out.dig _ (List.getElem_mem _)
          have hx2 : Hid (x * 10 + L2[k] = natOf (L2.take (k + 1))) := Lib.hid (by rw [List.take_succ_eq_append_getElem hlt2, natOf_snoc, ← hx.out]; omega)
          have hxb : x ≤ 1000000000000000 := by have := natOf_take_le L2 k; have := HBd.out; rw [hx.out]; omega
          generalize L2[k] = y at *
          have hw1 : IntKind.u64.wrap ((x : Int) * 10) = (x : Int) * 10 := u64_wrap _ (by omega)
          have hw2 : IntKind.u64.wrap ((x : Int) * 10 + (y : Int)) = (x : Int) * 10 + (y : Int) := u64_wrap _ (by omega)
          have hw3 : IntKind.u64.wrap (y : Int) = (y : Int) := u64_wrap _ (by omega)
          have HC : Hid ((x : Int) * 10 + (y : Int) = ((x * 10 + y : Nat) : Int)) := Lib.hid (by omega)
          clear hxb hlt2 hrow
          go_wp2_with fail
          go_round
          case rel => exact ⟨k + 1, x * 10 + y, by rw [HC.out], by go_num, by omega, hx2⟩
          case measure => simp [intOf]; omega
        · have hxe : Hid (x = natOf L2) := Lib.hid (by rw [hx.out, List.take_of_length_le (by rw [hn2.out]; omega)])
          have HT := Lib.hid (fun W => trimmed_any neg x e2 W (by rw [hxe.out]; exact HBd.out) (by omega) (by omega))
          have hI2 : Hid (pNear neg N e = if pRight (sg neg (pTrim x e2).1) (pTrim x e2).2 = true then some (sg neg (pTrim x e2).1, (pTrim x e2).2) else none) := Lib.hid (by rw [hxe.out]; exact HI.out)
          have hsb : (pTrim x e2).1 ≤ 1000000000000000 := by
            have hx15 : x ≤ 1000000000000000 := by rw [hxe.out]; exact HBd.out
            rcases Nat.eq_zero_or_pos x with z | z
            · rw [z, pTrim_zero]; exact Nat.zero_le _
            · obtain ⟨q, a1, -, -, -⟩ := pTrim_is x e2 z
              have : (pTrim x e2).1 * 1 ≤ (pTrim x e2).1 * 10 ^ q := Nat.mul_le_mul_left _ (Nat.pow_pos (by decide))
              omega
          have HRt := Lib.hid (fun W => right_any (sg neg (pTrim x e2).1) (pTrim x e2).2 W (by unfold sg; cases neg <;> simp <;> omega) (by unfold sg; cases neg <;> simp <;> omega))
          have HBel := Lib.hid HM2.out.bel
          have HRes := Lib.hid HM2.out.res
          clear HI HBd HM2 hx hxe hn2 hsb
          go_wp2_with fail
          refine (HT.out _).mono ?_
          rintro z w3 ⟨rfl, hb3⟩
          generalize sg neg (pTrim x e2).1 = m at *
          generalize (pTrim x e2).2 = g at *
          have HRes3 : Hid (Lies w3 w.heap.size 39 #[.int .i64 0, .int .i64 0]) := Lib.hid ((hb3.block _ HRes.out.lt).trans HRes.out)
          have HBel3 : Hid (Below base w w3) := Lib.hid (HBel.out.trans (hb3.mono (Nat.le_trans hbase HBel.out.size)))
          clear hb3 HT HRes HBel
          go_wp2_with fail
          refine (HRt.out _).mono ?_
          rintro z w4 ⟨rfl, hb4⟩
          have hlt3 := HRes3.out.lt
          have HRes4 : Hid (Lies w4 w.heap.size 39 #[.int .i64 0, .int .i64 0]) := Lib.hid ((hb4.block _ (by simp; omega)).trans (HRes3.out.alloc _))
          have HBel4 : Hid (Below base w w4) := Lib.hid ((HBel3.out.alloc (Nat.le_trans hbase HBel3.out.size) _).trans (hb4.mono (by have := HBel3.out.size; simp; omega)))
          have n0 : w4.cell? ⟨w3.heap.size, 0, none⟩ = some (.int .i64 m) := (hb4.cell (p := ⟨w3.heap.size, 0, none⟩) (by simp)).trans (by simp)
          have n1 : w4.cell? ⟨w3.heap.size, 1, none⟩ = some (.int .i64 g) := (hb4.cell (p := ⟨w3.heap.size, 1, none⟩) (by simp)).trans (by simp)
          have q0 := HRes4.out.cell 0
          have q1 := HRes4.out.cell 1
          have g0 := HRes4.out.frozen 0
          have g1 := HRes4.out.frozen 1
          simp at q0 q1
          clear hb4 HRt HRes3 HBel3
          cases hR : pRight m g
          · rw [hR, if_neg (by decide)] at hI2
            go_wp2_with fail
            refine bodyPost_ret (v := .tuple #[.agg #[.int .i64 0, .int .i64 0], .bool false]) (by simp [results, Tryd.results102, go_sem, q0, q1]) rfl ?_
            exact ⟨by rw [← HOut.out, hI2.out]; rfl, (HBel4.out.setCell (p := ⟨w.heap.size, 0, none⟩) hbase _).setCell (p := ⟨w.heap.size, 1, none⟩) hbase _⟩
          · rw [hR, if_pos rfl] at hI2
            go_wp2_with fail
            refine bodyPost_ret (v := .tuple #[.agg #[.int .i64 m, .int .i64 g], .bool true]) (by simp [results, Tryd.results102, go_sem, q0, q1]) rfl ?_
            exact ⟨by rw [← HOut.out, hI2.out]; rfl, (HBel4.out.setCell (p := ⟨w.heap.size, 0, none⟩) hbase _).setCell (p := ⟨w.heap.size, 1, none⟩) hbase _⟩
end Go.Proofs.YtcgdeoldgnjdeaaDoor
