/-
  mask.letter, mask.digits: what they return.
-/
import Derived.Test.YteccjdclkcipbaaDoorPlMa
import Derived.Test.YteccjdclkcipbaaDoorMask2
namespace Go.Proofs.YteccjdclkcipbaaDoor
open Go.RowKit

theorem letter_any (c : UInt8) (w : World) :
    Calls Tryd.prog 88 #[.int .u8 (c.toNat : Int)] w fun e w' => e = .returned (.bool (isLetter c)) ∧ w = w' := by
  go_enter Tryd.func88, Tryd.ntmps88
  go_wp2_with fail
  all_goals go_ret
  all_goals exact ⟨ret_bool (by unfold isLetter; rw [Bool.eq_iff_iff]; simp; omega), rfl⟩
/-- digits' boxes: the result's, and the part's -/
structure DIn (w : World) (p : MP) (w' : World) : Prop where
  res : Lies w' w.heap.size 95 (partC mp0)
  part : Lies w' (w.heap.size + 1) 95 (partC p)
  bel : Below w.heap.size w w'
theorem DIn.start (w : World) (p : MP) : DIn w p ((w.alloc (.cells (partC mp0) 95)).alloc (.cells (partC p) 95)) :=
  ⟨(Lies.new w _ _).alloc _, by have := Lies.new (w.alloc (.cells (partC mp0) 95)) 95 (partC p); simpa using this, ((Below.refl _ w).alloc (Nat.le_refl _) _).alloc (by simp) _⟩
theorem DIn.put {w w' : World} {p p' : MP} (h : DIn w p w') (k : Nat) (u : Value) (hp : (partC p).setIfInBounds k u = partC p') : DIn w p' (w'.setCell ⟨w.heap.size + 1, k, none⟩ u) :=
  ⟨(Below.heap_setCell w' ⟨w.heap.size + 1, k, none⟩ u w.heap.size (by show w.heap.size ≠ w.heap.size + 1; omega)).trans h.res, hp ▸ h.part.put k u, h.bel.setCell (p := ⟨w.heap.size + 1, k, none⟩) (Nat.le_succ _) u⟩
def pD (c : Bool) (n : Nat) : MP := ⟨4, [], n, c, false, 0, 0⟩
def pE (c : Bool) (n most least : Nat) : MP := ⟨4, [], n, c, true, most, least⟩
theorem lies_cells {w : World} {b : Nat} {p : MP} (h : Lies w b 95 (partC p)) : w.cell? ⟨b, 0, none⟩ = some (.int .i64 p.kind) ∧ w.cell? ⟨b, 1, none⟩ = some (.string ⟨p.text.toArray⟩) ∧ w.cell? ⟨b, 2, none⟩ = some (.int .i64 p.whole) ∧ w.cell? ⟨b, 3, none⟩ = some (.bool p.comma) ∧ w.cell? ⟨b, 4, none⟩ = some (.bool p.point) ∧ w.cell? ⟨b, 5, none⟩ = some (.int .i64 p.most) ∧ w.cell? ⟨b, 6, none⟩ = some (.int .i64 p.least) :=
  ⟨h.cell 0, h.cell 1, h.cell 2, h.cell 3, h.cell 4, h.cell 5, h.cell 6⟩
theorem below_put7 {w w' : World} (h : Below w.heap.size w w') (u0 u1 u2 u3 u4 u5 u6 : Value) : Below w.heap.size w (((((((w'.setCell ⟨w.heap.size, 0, none⟩ u0).setCell ⟨w.heap.size, 1, none⟩ u1).setCell ⟨w.heap.size, 2, none⟩ u2).setCell ⟨w.heap.size, 3, none⟩ u3).setCell ⟨w.heap.size, 4, none⟩ u4).setCell ⟨w.heap.size, 5, none⟩ u5).setCell ⟨w.heap.size, 6, none⟩ u6) :=
  ((((((h.setCell (p := ⟨_, _, none⟩) (Nat.le_refl _) u0).setCell (p := ⟨_, _, none⟩) (Nat.le_refl _) u1).setCell (p := ⟨_, _, none⟩) (Nat.le_refl _) u2).setCell (p := ⟨_, _, none⟩) (Nat.le_refl _) u3).setCell (p := ⟨_, _, none⟩) (Nat.le_refl _) u4).setCell (p := ⟨_, _, none⟩) (Nat.le_refl _) u5).setCell (p := ⟨_, _, none⟩) (Nat.le_refl _) u6
def partOut (x : MP × Nat × Int) : Value := .tuple #[partV x.1, .int .i64 x.2.1, .int .i64 x.2.2]
set_option maxRecDepth 100000 in
set_option maxHeartbeats 6400000 in
theorem digits_mask (l : Bs) (w : World) (hl : l.length ≤ 1000000) :
    Calls Tryd.prog 87 #[.string ⟨l.toArray⟩] w fun e w' => e = .returned (partOut (pDigits l)) ∧ Below w.heap.size w w' := by
  have HH := Lib.hid (HInv.start l)
  have HD0 : Hid (DIn w (pD false 0) ((w.alloc (.cells (partC mp0) 95)).alloc (.cells (partC (pD false 0)) 95))) := Lib.hid (DIn.start w _)
  obtain ⟨out, hout⟩ : ∃ out, partOut (pDigits l) = out := ⟨_, rfl⟩
  rw [hout]
  have HOut := Lib.hid hout
  clear hout
  go_enter Tryd.func87, Tryd.ntmps87
  go_upto_block 0 with fail
  go_cut [6] (fun v wx => ∃ (i : Nat) (c : Bool), v = .int .i64 i ∧ Hid (i ≤ l.length) ∧ Hid (hashN false l = (i, c)) ∧ Hid (DIn w (pD c 0) wx))
  case first =>
    go_wp2_with fail
    go_loopw [6] (fun v wr => ∃ (i : Nat) (c : Bool), v = .int .i64 i ∧ Hid (HInv l i c) ∧ Hid (DIn w (pD c 0) wr)) (fun v _ => l.length - (intOf v).toNat)
    case atStart => exact ⟨0, false, rfl, HH, HD0⟩
    case round =>
      obtain ⟨i, c, rfl, hq, hD⟩ := hrel
      clear HH HD0
      have hle := hq.out.1
      have HLE := Lib.hid hle
      have c3 := hD.out.part.cell 3
      have f3 := hD.out.part.frozen 3
      simp [partC, pD] at c3
      by_cases hlt : i < l.length
      · have e35 := at_beq l i 35 35 rfl hlt
        have e44 := at_beq l i 44 44 rfl hlt
        cases h35 : atIs l i 35
        · rw [h35] at e35
          cases h44 : atIs l i 44
          · rw [h44] at e44
            have hst := Lib.hid (hq.out.stop (fun _ => ⟨h35, .inl h44⟩))
            clear hq c3 f3
            go_wp2_with fail
            go_meet
            exact ⟨i, c, rfl, HLE, hst, hD⟩
          · rw [h44] at e44
            by_cases h0 : 0 < i
            · have hst := Lib.hid (hq.out.comma hlt h0 h44)
              have hD2 := Lib.hid (hD.out.put (p' := pD true 0) 3 (.bool true) rfl)
              clear hq hD
              cases c
              all_goals
                go_wp2_with fail
                go_roundw
                case rel => exact ⟨i + 1, true, by go_num, hst, hD2⟩
                case measure => simp [intOf]; omega
            · obtain rfl : i = 0 := by omega
              have hst := Lib.hid (hq.out.stop (fun _ => ⟨h35, .inr rfl⟩))
              clear hq c3 f3 h0
              go_wp2_with fail
              go_meet
              exact ⟨0, c, rfl, HLE, hst, hD⟩
        · rw [h35] at e35
          have h44 := at_excl h35 (show (35 : UInt8) ≠ 44 by decide)
          rw [h44] at e44
          have hst := Lib.hid (hq.out.hash hlt h35)
          have hD2 := Lib.hid (hD.out.put (p' := pD c 0) 3 (.bool c) rfl)
          clear hq hD
          cases c
          all_goals
            go_wp2_with fail
            go_roundw
            case rel => exact ⟨i + 1, _, by go_num, hst, hD2⟩
            case measure => simp [intOf]; omega
      · have hst := Lib.hid (hq.out.stop (fun h => absurd h hlt))
        clear hq c3 f3
        go_wp2_with fail
        go_meet
        exact ⟨i, c, rfl, HLE, hst, hD⟩
  case rest =>
    obtain ⟨a, ca, rfl, hle, hH, hDa⟩ := hcut
    clear HH HD0
    have hleA := hle.out
    have HZ := Lib.hid (ZInv.start l a hleA)
    have HDZ : Hid (DIn w (pD (ca || false) 0) wc) := Lib.hid (by rw [Bool.or_false]; exact hDa.out)
    clear hDa hle
    go_upto_block 2 with fail
    go_cut [6] (fun v wx => ∃ (i : Nat) (c : Bool) (n : Nat), v = .int .i64 i ∧ Hid (a ≤ i) ∧ Hid (i ≤ l.length) ∧ Hid (n ≤ i) ∧ Hid (zeroN (decide (0 < a)) (l.drop a) = (i - a, c, n)) ∧ Hid (DIn w (pD (ca || c) n) wx))
    case first =>
      go_wp2_with fail
      go_loopw [6] (fun v wr => ∃ (i : Nat) (c : Bool) (n : Nat), v = .int .i64 i ∧ Hid (ZInv l a i c n) ∧ Hid (DIn w (pD (ca || c) n) wr)) (fun v _ => l.length - (intOf v).toNat)
      case atStart => exact ⟨a, false, 0, rfl, HZ, HDZ⟩
      case round =>
        obtain ⟨i, c, n, rfl, hq, hD⟩ := hrel
        clear HZ HDZ
        have hle := hq.out.2.1
        have hn := hq.out.2.2.1
        have HAL := Lib.hid hq.out.1
        have HLE := Lib.hid hle
        have HN := Lib.hid hn
        have c3 := hD.out.part.cell 3
        have f3 := hD.out.part.frozen 3
        have c2 := hD.out.part.cell 2
        have f2 := hD.out.part.frozen 2
        simp [partC, pD] at c3 c2
        by_cases hlt : i < l.length
        · have e48 := at_beq l i 48 48 rfl hlt
          have e44 := at_beq l i 44 44 rfl hlt
          cases h48 : atIs l i 48
          · rw [h48] at e48
            cases h44 : atIs l i 44
            · rw [h44] at e44
              have hst := Lib.hid (hq.out.stop (fun _ => ⟨h48, .inl h44⟩))
              clear hq c3 f3 c2 f2
              go_wp2_with fail
              go_meet
              exact ⟨i, c, n, rfl, HAL, HLE, HN, hst, hD⟩
            · rw [h44] at e44
              by_cases h0 : 0 < i
              · have hst := Lib.hid (hq.out.comma hlt h0 h44)
                have hD2 : Hid (DIn w (pD (ca || true) n) (wr.setCell ⟨w.heap.size + 1, 3, none⟩ (.bool true))) := Lib.hid (hD.out.put (p' := pD (ca || true) n) 3 (.bool true) (by rw [Bool.or_true]; rfl))
                clear hq hD
                cases ca <;> cases c
                all_goals
                  go_wp2_with fail
                  go_roundw
                  case rel => exact ⟨i + 1, true, n, by go_num, hst, hD2⟩
                  case measure => simp [intOf]; omega
              · obtain rfl : i = 0 := by omega
                have hst := Lib.hid (hq.out.stop (fun _ => ⟨h48, .inr rfl⟩))
                clear hq c3 f3 c2 f2 h0
                go_wp2_with fail
                go_meet
                exact ⟨0, c, n, rfl, HAL, HLE, HN, hst, hD⟩
          · rw [h48] at e48
            have h44 := at_excl h48 (show (48 : UInt8) ≠ 44 by decide)
            rw [h44] at e44
            have hst := Lib.hid (hq.out.zero hlt h48)
            have hD2 : Hid (DIn w (pD (ca || c) (n + 1)) ((wr.setCell ⟨w.heap.size + 1, 3, none⟩ (.bool (ca || c))).setCell ⟨w.heap.size + 1, 2, none⟩ (.int .i64 ((n + 1 : Nat) : Int)))) := Lib.hid ((hD.out.put (p' := pD (ca || c) n) 3 (.bool (ca || c)) rfl).put (p' := pD (ca || c) (n + 1)) 2 (.int .i64 ((n + 1 : Nat) : Int)) rfl)
            clear hq hD
            cases ca <;> cases c
            all_goals
              go_wp2_with fail
              go_roundw
              case rel => exact ⟨i + 1, _, n + 1, by go_num, hst, hD2⟩
              case measure => simp [intOf]; omega
        · have hst := Lib.hid (hq.out.stop (fun h => absurd h hlt))
          clear hq c3 f3 c2 f2
          go_wp2_with fail
          go_meet
          exact ⟨i, c, n, rfl, HAL, HLE, HN, hst, hD⟩
    case rest =>
      obtain ⟨i, cz, n, rfl, hai, hil, hni, hZ, hD⟩ := hcut
      clear HZ HDZ hleA
      have hpd : pDigits l = if atIs l i 46 = true then (if i = 0 ∧ runP (fun c => c == 48) (l.drop (i + 1)) + runP (fun c => c == 35) (l.drop (i + 1 + runP (fun c => c == 48) (l.drop (i + 1)))) = 0 then (mp0, 0, 6) else (pE (ca || cz) n (runP (fun c => c == 48) (l.drop (i + 1)) + runP (fun c => c == 35) (l.drop (i + 1 + runP (fun c => c == 48) (l.drop (i + 1))))) (runP (fun c => c == 48) (l.drop (i + 1))), i + 1 + runP (fun c => c == 48) (l.drop (i + 1)) + runP (fun c => c == 35) (l.drop (i + 1 + runP (fun c => c == 48) (l.drop (i + 1)))), 0)) else (pD (ca || cz) n, i, 0) := by
        unfold pDigits
        rw [hH.out]
        dsimp only
        rw [hZ.out]
        dsimp only
        rw [show a + (i - a) = i by have := hai.out; omega]
        rfl
      have HPD := Lib.hid hpd
      clear hpd hZ hH
      generalize (ca || cz) = c at *
      have hile := hil.out
      have hnle := hni.out
      clear hai hni
      cases h46 : atIs l i 46
      · have hres : Hid (out = .tuple #[partV (pD c n), .int .i64 i, .int .i64 0]) := Lib.hid (by rw [← HOut.out, HPD.out, h46, if_neg (by decide)]; rfl)
        clear HPD HOut
        obtain ⟨p0, p1, p2, p3, p4, p5, p6⟩ := lies_cells hD.out.part
        obtain ⟨r0, r1, r2, r3, r4, r5, r6⟩ := lies_cells hD.out.res
        have RF := hD.out.res
        have rf0 := RF.frozen 0
        have rf1 := RF.frozen 1
        have rf2 := RF.frozen 2
        have rf3 := RF.frozen 3
        have rf4 := RF.frozen 4
        have rf5 := RF.frozen 5
        have rf6 := RF.frozen 6
        have rlt := RF.lt
        have HB := Lib.hid hD.out.bel
        clear RF
        simp only [pD] at *
        by_cases hlt : i < l.length
        · have e46 := at_bne l i 46 46 rfl hlt
          rw [h46] at e46
          go_wp2_with fail
          refine bodyPost_ret (v := .tuple #[.agg #[.int .i64 4, .string ⟨#[]⟩, .int .i64 n, .bool c, .bool false, .int .i64 0, .int .i64 0], .int .i64 (i : Nat), .int .i64 0]) (by simp [results, Tryd.results87, go_sem, r0, r1, r2, r3, r4, r5, r6]) rfl ?_
          exact ⟨by rw [hres.out]; rfl, below_put7 HB.out _ _ _ _ _ _ _⟩
        · have eil : ((i : Int) == (l.length : Int)) = true := by rw [beq_iff_eq]; omega
          go_wp2_with fail
          refine bodyPost_ret (v := .tuple #[.agg #[.int .i64 4, .string ⟨#[]⟩, .int .i64 n, .bool c, .bool false, .int .i64 0, .int .i64 0], .int .i64 (i : Nat), .int .i64 0]) (by simp [results, Tryd.results87, go_sem, r0, r1, r2, r3, r4, r5, r6]) rfl ?_
          exact ⟨by rw [hres.out]; rfl, below_put7 HB.out _ _ _ _ _ _ _⟩
      · have hlt := at_lt _ _ _ h46
        rw [h46, if_pos rfl] at HPD
        have e46 := at_bne l i 46 46 rfl hlt
        rw [h46] at e46
        have c4 := hD.out.part.cell 4
        have f4 := hD.out.part.frozen 4
        simp [partC, pD] at c4
        have hD4 := Lib.hid (hD.out.put (p' := pE c n 0 0) 4 (.bool true) rfl)
        have HR := Lib.hid (RInv.start l 48 (i + 1) hlt)
        clear hD
        go_upto_block 4 with fail
        go_cut [6] (fun v wx => ∃ (q z : Nat), v = .int .i64 (q : Int) ∧ Hid (q = i + 1 + z) ∧ Hid (q ≤ l.length) ∧ Hid (runP (fun c => c == 48) (l.drop (i + 1)) = z) ∧ Hid (DIn w (pE c n 0 z) wx))
        case first =>
          go_wp2_with fail
          clear HPD HOut
          go_loopw [6] (fun v wr => ∃ (k j : Nat), v = .int .i64 (k : Int) ∧ Hid (k = i + 1 + j) ∧ Hid (RInv l 48 (i + 1) k) ∧ Hid (DIn w (pE c n 0 j) wr)) (fun v _ => l.length - (intOf v).toNat)
          case atStart => exact ⟨i + 1, 0, by go_num, Lib.hid rfl, HR, hD4⟩
          case round =>
            obtain ⟨k, j, rfl, hkj, hq, hD⟩ := hrel
            clear HR hD4
            have hle := hq.out.2.1
            have HLE := Lib.hid hle
            have c6 := hD.out.part.cell 6
            have f6 := hD.out.part.frozen 6
            simp [partC, pE] at c6
            by_cases hj : k < l.length
            · have e48 := at_beq l k 48 48 rfl hj
              cases h48 : atIs l k 48
              · rw [h48] at e48
                have hst := Lib.hid (hq.out.stop (fun _ => h48))
                clear hq c6 f6
                rw [hkj.out, Nat.add_sub_cancel_left] at hst
                go_wp2_with fail
                go_meet
                exact ⟨k, j, rfl, hkj, HLE, hst, hD⟩
              · rw [h48] at e48
                have hst := Lib.hid (hq.out.step hj h48)
                have hjb : j ≤ 1000000 := by have := hkj.out; omega
                have hD2 := Lib.hid (hD.out.put (p' := pE c n 0 (j + 1)) 6 (.int .i64 ((j : Int) + 1)) (by simp [partC, pE]))
                clear hq hD
                go_wp2_with fail
                go_roundw
                case rel => exact ⟨k + 1, j + 1, by go_num, Lib.hid (by have := hkj.out; omega), hst, hD2⟩
                case measure => simp [intOf]; omega
            · have hst := Lib.hid (hq.out.stop (fun h => absurd h hj))
              clear hq c6 f6
              rw [hkj.out, Nat.add_sub_cancel_left] at hst
              go_wp2_with fail
              go_meet
              exact ⟨k, j, rfl, hkj, HLE, hst, hD⟩
        case rest =>
          obtain ⟨q, z, rfl, hqz, hzl, hz, hD⟩ := hcut
          clear HR hD4 c4 f4
          rw [hz.out, ← hqz.out] at HPD
          clear hz
          have hzle := hzl.out
          have c5 := hD.out.part.cell 5
          have f5 := hD.out.part.frozen 5
          have c6 := hD.out.part.cell 6
          simp [partC, pE] at c5 c6
          have hD5 : Hid (DIn w (pE c n (z + 0) z) (wc.setCell ⟨w.heap.size + 1, 5, none⟩ (.int .i64 (z : Int)))) := Lib.hid (hD.out.put (p' := pE c n (z + 0) z) 5 (.int .i64 (z : Int)) rfl)
          have HR := Lib.hid (RInv.start l 35 q hzl.out)
          clear hD
          go_upto_block 6 with fail
          go_cut [6] (fun v wx => ∃ (q2 h : Nat), v = .int .i64 (q2 : Int) ∧ Hid (q2 = q + h) ∧ Hid (q2 ≤ l.length) ∧ Hid (runP (fun c => c == 35) (l.drop q) = h) ∧ Hid (DIn w (pE c n (z + h) z) wx))
          case first =>
            go_wp2_with fail
            clear HPD HOut c5 f5 c6
            go_loopw [6] (fun v wr => ∃ (k j : Nat), v = .int .i64 (k : Int) ∧ Hid (k = q + j) ∧ Hid (RInv l 35 q k) ∧ Hid (DIn w (pE c n (z + j) z) wr)) (fun v _ => l.length - (intOf v).toNat)
            case atStart => exact ⟨q, 0, rfl, Lib.hid rfl, HR, hD5⟩
            case round =>
              obtain ⟨k, j, rfl, hkj, hq, hD⟩ := hrel
              clear HR hD5
              have hle := hq.out.2.1
              have HLE := Lib.hid hle
              have c5 := hD.out.part.cell 5
              have f5 := hD.out.part.frozen 5
              simp [partC, pE] at c5
              by_cases hj : k < l.length
              · have e35 := at_beq l k 35 35 rfl hj
                cases h35 : atIs l k 35
                · rw [h35] at e35
                  have hst := Lib.hid (hq.out.stop (fun _ => h35))
                  clear hq c5 f5
                  rw [hkj.out, Nat.add_sub_cancel_left] at hst
                  go_wp2_with fail
                  go_meet
                  exact ⟨k, j, rfl, hkj, HLE, hst, hD⟩
                · rw [h35] at e35
                  have hst := Lib.hid (hq.out.step hj h35)
                  have hjb : j ≤ 1000000 ∧ z ≤ 1000000 := by have := hkj.out; have := hqz.out; omega
                  have hD2 := Lib.hid (hD.out.put (p' := pE c n (z + (j + 1)) z) 5 (.int .i64 ((z : Int) + (j : Int) + 1)) (by simp [partC, pE]; omega))
                  obtain ⟨hjb1, hjb2⟩ := hjb
                  clear hq hD
                  go_wp2_with fail
                  go_roundw
                  case rel => exact ⟨k + 1, j + 1, by go_num, Lib.hid (by have := hkj.out; omega), hst, hD2⟩
                  case measure => simp [intOf]; omega
              · have hst := Lib.hid (hq.out.stop (fun h => absurd h hj))
                clear hq c5 f5
                rw [hkj.out, Nat.add_sub_cancel_left] at hst
                go_wp2_with fail
                go_meet
                exact ⟨k, j, rfl, hkj, HLE, hst, hD⟩
          case rest =>
            obtain ⟨q2, h, rfl, hqh, hhl, hh, hD⟩ := hcut
            clear HR hD5 c5 f5 c6
            rw [hh.out, ← hqh.out] at HPD
            clear hh
            have hhle := hhl.out
            obtain ⟨p0, p1, p2, p3, p4, p5, p6⟩ := lies_cells hD.out.part
            obtain ⟨r0, r1, r2, r3, r4, r5, r6⟩ := lies_cells hD.out.res
            have RF := hD.out.res
            have rf0 := RF.frozen 0
            have rf1 := RF.frozen 1
            have rf2 := RF.frozen 2
            have rf3 := RF.frozen 3
            have rf4 := RF.frozen 4
            have rf5 := RF.frozen 5
            have rf6 := RF.frozen 6
            have rlt := RF.lt
            have HB := Lib.hid hD.out.bel
            clear RF
            simp only [pE] at p0 p1 p2 p3 p4 p5 p6
            by_cases hi0 : i = 0
            · subst hi0
              by_cases hzh : z + h = 0
              · have hres : Hid (out = .tuple #[partV mp0, .int .i64 0, .int .i64 6]) := Lib.hid (by rw [← HOut.out, HPD.out, if_pos ⟨rfl, hzh⟩]; rfl)
                have ezh : (((z + h : Nat) : Int) == 0) = true := by rw [beq_iff_eq]; omega
                clear HPD HOut
                go_wp2_with fail
                refine bodyPost_ret (v := .tuple #[.agg #[.int .i64 0, .string ⟨#[]⟩, .int .i64 0, .bool false, .bool false, .int .i64 0, .int .i64 0], .int .i64 (0), .int .i64 6]) (by simp [results, Tryd.results87, go_sem, r0, r1, r2, r3, r4, r5, r6]) rfl ?_
                exact ⟨by rw [hres.out]; rfl, below_put7 HB.out _ _ _ _ _ _ _⟩
              · have hres : Hid (out = .tuple #[partV (pE c n (z + h) z), .int .i64 (q2 : Int), .int .i64 0]) := Lib.hid (by rw [← HOut.out, HPD.out, if_neg (fun g => hzh g.2)]; rfl)
                have ezh : (((z + h : Nat) : Int) == 0) = false := by rw [beq_eq_false_iff_ne]; omega
                clear HPD HOut
                go_wp2_with fail
                refine bodyPost_ret (v := .tuple #[.agg #[.int .i64 4, .string ⟨#[]⟩, .int .i64 n, .bool c, .bool true, .int .i64 ((z + h : Nat) : Int), .int .i64 z], .int .i64 (q2 : Int), .int .i64 0]) (by simp [results, Tryd.results87, go_sem, r0, r1, r2, r3, r4, r5, r6]) rfl ?_
                exact ⟨by rw [hres.out]; rfl, below_put7 HB.out _ _ _ _ _ _ _⟩
            · have hres : Hid (out = .tuple #[partV (pE c n (z + h) z), .int .i64 (q2 : Int), .int .i64 0]) := Lib.hid (by rw [← HOut.out, HPD.out, if_neg (fun g => hi0 g.1)]; rfl)
              have ei0 : ((i : Int) == 0) = false := by rw [beq_eq_false_iff_ne]; omega
              clear HPD HOut
              go_wp2_with fail
              refine bodyPost_ret (v := .tuple #[.agg #[.int .i64 4, .string ⟨#[]⟩, .int .i64 n, .bool c, .bool true, .int .i64 ((z + h : Nat) : Int), .int .i64 z], .int .i64 (q2 : Int), .int .i64 0]) (by simp [results, Tryd.results87, go_sem, r0, r1, r2, r3, r4, r5, r6]) rfl ?_
              exact ⟨by rw [hres.out]; rfl, below_put7 HB.out _ _ _ _ _ _ _⟩
end Go.Proofs.YteccjdclkcipbaaDoor
