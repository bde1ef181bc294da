/-
  counterpaneref31.places: what it returns.
-/
import Derived.Test.YteccjdclkcipbaaDoorPlMp
import Derived.Test.YteccjdclkcipbaaDoorMask4
namespace Go.Proofs.YteccjdclkcipbaaDoor
open Go.RowKit

def rpartC (kd : Int) (tx : Bs) (z u m : Int) (g p : Bool) : Array Value := #[.int .i64 kd, .string ⟨tx.toArray⟩, .int .i64 z, .int .i64 u, .int .i64 m, .bool g, .bool p]
abbrev rpartV (kd : Int) (tx : Bs) (z u m : Int) (g p : Bool) : Value := .agg #[.int .i64 kd, .string ⟨tx.toArray⟩, .int .i64 z, .int .i64 u, .int .i64 m, .bool g, .bool p]
/-- places' boxes: the result's, and the part's -/
structure QIn (w : World) (z u m : Nat) (g p : Bool) (w' : World) : Prop where
  res : Lies w' w.heap.size 112 (rpartC 0 [] 0 0 0 false false)
  part : Lies w' (w.heap.size + 1) 112 (rpartC 3 [] z u m g p)
  bel : Below w.heap.size w w'
theorem QIn.start (w : World) : QIn w 0 0 0 false false ((w.alloc (.cells (rpartC 0 [] 0 0 0 false false) 112)).alloc (.cells (rpartC 3 [] 0 0 0 false false) 112)) :=
  ⟨(Lies.new w _ _).alloc _, by have := Lies.new (w.alloc (.cells (rpartC 0 [] 0 0 0 false false) 112)) 112 (rpartC 3 [] 0 0 0 false false); simpa using this, ((Below.refl _ w).alloc (Nat.le_refl _) _).alloc (by simp) _⟩
theorem QIn.put {w w' : World} {z u m z2 u2 m2 : Nat} {g p g2 p2 : Bool} (h : QIn w z u m g p w') (k : Nat) (x : Value) (hp : (rpartC 3 [] z u m g p).setIfInBounds k x = rpartC 3 [] z2 u2 m2 g2 p2) : QIn w z2 u2 m2 g2 p2 (w'.setCell ⟨w.heap.size + 1, k, none⟩ x) :=
  ⟨(Below.heap_setCell w' ⟨w.heap.size + 1, k, none⟩ x w.heap.size (by show w.heap.size ≠ w.heap.size + 1; omega)).trans h.res, hp ▸ h.part.put k x, h.bel.setCell (p := ⟨w.heap.size + 1, k, none⟩) (Nat.le_succ _) x⟩
theorem rlies_cells {w : World} {b : Nat} {kd z u m : Int} {tx : Bs} {g p : Bool} (h : Lies w b 112 (rpartC kd tx z u m g p)) : w.cell? ⟨b, 0, none⟩ = some (.int .i64 kd) ∧ w.cell? ⟨b, 1, none⟩ = some (.string ⟨tx.toArray⟩) ∧ w.cell? ⟨b, 2, none⟩ = some (.int .i64 z) ∧ w.cell? ⟨b, 3, none⟩ = some (.int .i64 u) ∧ w.cell? ⟨b, 4, none⟩ = some (.int .i64 m) ∧ w.cell? ⟨b, 5, none⟩ = some (.bool g) ∧ w.cell? ⟨b, 6, none⟩ = some (.bool p) :=
  ⟨h.cell 0, h.cell 1, h.cell 2, h.cell 3, h.cell 4, h.cell 5, h.cell 6⟩
def PlacesPost (n : Nat) (w : World) (e : Ending) (w' : World) : Prop := ∃ (kd z u m : Int) (g p : Bool), e = .returned (.tuple #[rpartV kd [] z u m g p, .int .i64 (n : Int)]) ∧ Below w.heap.size w w'
set_option maxRecDepth 100000 in
set_option maxHeartbeats 6400000 in
theorem places31_any (l : Bs) (a : Nat) (w : World) (ha : a < l.length) (hl : l.length ≤ 1000000) :
    Calls Tryd.prog 69 #[.string ⟨l.toArray⟩, .int .i64 (a : Int)] w (PlacesPost (pLen (l.drop a)) w) := by
  have HL0 := Lib.hid (LAt.start l a (Nat.le_of_lt ha))
  have HQ0 := Lib.hid (QIn.start w)
  obtain ⟨N, hN⟩ : ∃ N, pLen (l.drop a) = N := ⟨_, rfl⟩
  rw [hN]
  have HN := Lib.hid hN
  clear hN
  go_enter Tryd.func69, Tryd.ntmps69
  go_upto_block 0 with fail
  go_cut [7, 8] (fun v vs wx => ∃ (i s z : Nat) (g : Bool), v = .int .i64 (i : Int) ∧ vs = .int .i64 (s : Int) ∧ a ≤ i ∧ i ≤ l.length ∧ Hid (0 < s ↔ a < i) ∧ s ≤ i ∧ z ≤ i ∧ Hid (EndP (l.drop a) (i - a)) ∧ Hid (QIn w z 0 0 g false wx))
  case first =>
    go_wp2_with fail
    go_loopw [7, 8, 9] (fun v vs vz wr => ∃ (i s z : Nat) (zero g : Bool), v = .int .i64 (i : Int) ∧ vs = .int .i64 (s : Int) ∧ vz = .bool zero ∧ z ≤ i ∧ Hid (LAt l a i s zero) ∧ Hid (QIn w z 0 0 g false wr)) (fun v _ _ _ => l.length - (intOf v).toNat)
    case atStart => exact ⟨a, 0, 0, false, false, rfl, rfl, rfl, Nat.zero_le _, HL0, HQ0⟩
    case round =>
      obtain ⟨i, s, z, zero, g, rfl, rfl, rfl, hz, hq, hD⟩ := hrel
      clear HL0 HQ0 HN
      have hle := hq.out.hi
      have hlo := hq.out.lo
      have hsi : s ≤ i := by have := hq.out.few; omega
      have HSg := Lib.hid hq.out.signs
      have c5 := hD.out.part.cell 5
      have f5 := hD.out.part.frozen 5
      have c2 := hD.out.part.cell 2
      have f2 := hD.out.part.frozen 2
      simp only [rpartC, List.getElem?_toArray, List.getElem?_cons_zero, List.getElem?_cons_succ] at c5 c2
      by_cases hlt : i < l.length
      · have e44 := at_beq l i 44 44 rfl hlt
        have e35 := at_beq l i 35 35 rfl hlt
        have e48 := at_beq l i 48 48 rfl hlt
        cases h44 : atIs l i 44
        · rw [h44] at e44
          cases h35 : atIs l i 35
          · rw [h35] at e35
            cases h48 : atIs l i 48
            · rw [h48] at e48
              have hst := Lib.hid (hq.out.stop (fun _ => ⟨.inl h44, .inl h35, h48⟩))
              clear hq c5 f5 c2 f2
              go_wp2_with fail
              go_meet
              exact ⟨i, s, z, g, rfl, rfl, hlo, hle, HSg, hsi, hz, hst, hD⟩
            · rw [h48] at e48
              have hst := Lib.hid (hq.out.zero hlt h48)
              have hD2 := Lib.hid (hD.out.put (z2 := z + 1) (u2 := 0) (m2 := 0) (g2 := g) (p2 := false) 2 (.int .i64 ((z : Int) + 1)) rfl)
              clear hq hD
              go_wp2_with fail
              go_roundw
              case rel => exact ⟨i + 1, s + 1, z + 1, true, g, by go_num, by go_num, rfl, by omega, hst, hD2⟩
              case measure => simp [intOf]; omega
          · rw [h35] at e35
            have h48 := at_excl h35 (show (35 : UInt8) ≠ 48 by decide)
            rw [h48] at e48
            cases zero
            · have hst := Lib.hid (hq.out.hash hlt h35)
              clear hq c5 f5 c2 f2
              go_wp2_with fail
              go_roundw
              case rel => exact ⟨i + 1, s + 1, z, false, g, by go_num, by go_num, rfl, by omega, hst, hD⟩
              case measure => simp [intOf]; omega
            · have hst := Lib.hid (hq.out.stop (fun _ => ⟨.inl h44, .inr rfl, h48⟩))
              clear hq c5 f5 c2 f2
              go_wp2_with fail
              go_meet
              exact ⟨i, s, z, g, rfl, rfl, hlo, hle, HSg, hsi, hz, hst, hD⟩
        · rw [h44] at e44
          have h48 := at_excl h44 (show (44 : UInt8) ≠ 48 by decide)
          have h35 := at_excl h44 (show (44 : UInt8) ≠ 35 by decide)
          rw [h48] at e48
          rw [h35] at e35
          by_cases hs : 0 < s
          · have hst := Lib.hid (hq.out.comma hlt hs h44)
            have hD2 := Lib.hid (hD.out.put (z2 := z) (u2 := 0) (m2 := 0) (g2 := true) (p2 := false) 5 (.bool true) rfl)
            clear hq hD
            go_wp2_with fail
            go_roundw
            case rel => exact ⟨i + 1, s, z, zero, true, by go_num, rfl, rfl, by omega, hst, hD2⟩
            case measure => simp [intOf]; omega
          · obtain rfl : s = 0 := by omega
            have hst := Lib.hid (hq.out.stop (fun _ => ⟨.inr rfl, .inl h35, h48⟩))
            clear hq c5 f5 c2 f2 hs
            go_wp2_with fail
            go_meet
            exact ⟨i, 0, z, g, rfl, rfl, hlo, hle, HSg, hsi, hz, hst, hD⟩
      · have hst := Lib.hid (hq.out.stop (fun h => absurd h hlt))
        clear hq c5 f5 c2 f2
        go_wp2_with fail
        go_meet
        exact ⟨i, s, z, g, rfl, rfl, hlo, hle, HSg, hsi, hz, hst, hD⟩
  case rest =>
    obtain ⟨i, s, z, g, rfl, rfl, hlo, hle, HSg, hsi, hz, HE, HD⟩ := hcut
    clear HL0 HQ0
    obtain ⟨Y, hY⟩ : ∃ Y, (atIs l i 46 && (decide (0 < s) || atIs l (i + 1) 48 || atIs l (i + 1) 35)) = Y := ⟨_, rfl⟩
    have HY := Lib.hid hY
    clear hY
    go_upto_region 15 with fail
    go_cut [79] (fun v wx => v = .bool Y ∧ wc = wx)
    case first =>
      clear HD HE HN HSg
      by_cases hlt : i < l.length
      · have e46 := at_beq l i 46 46 rfl hlt
        cases h46 : atIs l i 46
        · rw [h46] at e46
          have hr : Hid (Y = false) := Lib.hid (by rw [← HY.out, h46]; rfl)
          clear HY
          go_wp2_with fail
          go_meet
          exact ⟨by rw [hr.out], rfl⟩
        · rw [h46] at e46
          by_cases hs : 0 < s
          · have hr : Hid (Y = true) := Lib.hid (by rw [← HY.out, h46, decide_eq_true hs]; rfl)
            clear HY
            go_wp2_with fail
            go_meet
            exact ⟨by rw [hr.out], rfl⟩
          · obtain rfl : s = 0 := by omega
            by_cases hlt2 : i + 1 < l.length
            · have e48 := at_beq l (i + 1) 48 48 rfl hlt2
              have e35 := at_beq l (i + 1) 35 35 rfl hlt2
              rw [h46] at HY
              cases h48 : atIs l (i + 1) 48
              · rw [h48] at e48 HY
                cases h35 : atIs l (i + 1) 35
                · rw [h35] at e35 HY
                  have hr : Hid (Y = false) := Lib.hid (by rw [← HY.out]; rfl)
                  clear HY
                  go_wp2_with fail
                  go_meet
                  exact ⟨by rw [hr.out], rfl⟩
                · rw [h35] at e35 HY
                  have hr : Hid (Y = true) := Lib.hid (by rw [← HY.out]; rfl)
                  clear HY
                  go_wp2_with fail
                  go_meet
                  exact ⟨by rw [hr.out], rfl⟩
              · rw [h48] at e48 HY
                have hr : Hid (Y = true) := Lib.hid (by rw [← HY.out]; rfl)
                clear HY e35
                go_wp2_with fail
                go_meet
                exact ⟨by rw [hr.out], rfl⟩
            · have hr : Hid (Y = false) := Lib.hid (by
                have h1 : atIs l (i + 1) 48 = false := by rw [Bool.eq_false_iff]; intro e; exact hlt2 (at_lt _ _ _ e)
                have h2 : atIs l (i + 1) 35 = false := by rw [Bool.eq_false_iff]; intro e; exact hlt2 (at_lt _ _ _ e)
                rw [← HY.out, h46, h1, h2]; rfl)
              have hlt3 : ¬ (i : Int) + 1 < (l.length : Int) := by omega
              clear HY
              go_wp2_with fail
              go_meet
              exact ⟨by rw [hr.out], rfl⟩
      · have hr : Hid (Y = false) := Lib.hid (by
          have h1 : atIs l i 46 = false := by rw [Bool.eq_false_iff]; intro e; exact hlt (at_lt _ _ _ e)
          rw [← HY.out, h1]; rfl)
        clear HY
        go_wp2_with fail
        go_meet
        exact ⟨by rw [hr.out], rfl⟩
    case rest =>
      obtain ⟨rfl, rfl⟩ := hcut
      cases Y
      · obtain ⟨p0, p1, p2, p3, p4, p5, p6⟩ := rlies_cells HD.out.part
        obtain ⟨r0, r1, r2, r3, r4, r5, r6⟩ := rlies_cells HD.out.res
        have RF := HD.out.res
        have rf0 := RF.frozen 0
        have rf1 := RF.frozen 1
        have rf2 := RF.frozen 2
        have rf3 := RF.frozen 3
        have rf4 := RF.frozen 4
        have rf5 := RF.frozen 5
        have rf6 := RF.frozen 6
        have rlt := RF.lt
        have HB := Lib.hid HD.out.bel
        clear RF HD
        by_cases hs : 0 < s
        · have hb0 : ((s : Int) == 0) = false := by rw [beq_eq_false_iff_ne]; omega
          have hr : Hid (N = i - a) := Lib.hid (by
            have h46 : atIs l i 46 = false := by
              have := HY.out
              rw [decide_eq_true hs, Bool.true_or, Bool.true_or, Bool.and_true] at this
              exact this
            rw [← HN.out]; exact pLen_plain HE.out hlo h46)
          clear HE HN HY
          go_wp2_with fail
          refine bodyPost_ret (v := .tuple #[.agg #[.int .i64 3, .string ⟨#[]⟩, .int .i64 z, .int .i64 0, .int .i64 0, .bool g, .bool false], .int .i64 ((i : Int) - a)]) (by simp [results, Tryd.results69, go_sem, r0, r1, r2, r3, r4, r5, r6]) rfl ?_
          exact ⟨3, z, 0, 0, g, false, by rw [hr.out, Int.ofNat_sub hlo], below_put7 HB.out _ _ _ _ _ _ _⟩
        · obtain rfl : s = 0 := by omega
          have hr : Hid (N = 0) := Lib.hid (by
            obtain rfl : i = a := by have := HSg.out; omega
            cases h46 : atIs l i 46
            · rw [← HN.out, pLen_plain HE.out hlo h46]; omega
            · have := HY.out
              rw [h46, Bool.true_and, Bool.or_eq_false_iff, Bool.or_eq_false_iff] at this
              rw [← HN.out]
              have hE := HE.out
              rw [Nat.sub_self] at hE
              exact pLen_none hE h46 this.1.2 this.2)
          clear HE HN HY hs
          go_wp2_with fail
          refine bodyPost_ret (v := .tuple #[.agg #[.int .i64 0, .string ⟨#[]⟩, .int .i64 0, .int .i64 0, .int .i64 0, .bool false, .bool false], .int .i64 0]) (by simp [results, Tryd.results69, go_sem, r0, r1, r2, r3, r4, r5, r6]) rfl ?_
          exact ⟨0, 0, 0, 0, false, false, by rw [hr.out]; rfl, below_put7 HB.out _ _ _ _ _ _ _⟩
      · have h46 : atIs l i 46 = true := by
          have := HY.out
          rw [Bool.and_eq_true] at this
          exact this.1
        have hlt := at_lt _ _ _ h46
        have HP : Hid (∀ z q, runP (fun c => c == 48) (l.drop (i + 1)) = z → runP (fun c => c == 35) (l.drop (i + 1 + z)) = q → N = i + 1 + z + q - a) := Lib.hid (fun z q hz hq => by
          have := HY.out
          rw [h46, Bool.true_and, Bool.or_eq_true, Bool.or_eq_true, decide_eq_true_iff] at this
          rw [← HN.out]
          refine pLen_point HE.out hlo h46 ?_ z q hz hq
          rcases this with (h | h) | h
          · exact .inl (HSg.out.1 h)
          · exact .inr (.inl h)
          · exact .inr (.inr h))
        clear HY HN HE HSg h46
        have c6 := HD.out.part.cell 6
        have f6 := HD.out.part.frozen 6
        simp only [rpartC, List.getElem?_toArray, List.getElem?_cons_zero, List.getElem?_cons_succ] at c6
        have HD1 := Lib.hid (HD.out.put (z2 := z) (u2 := 0) (m2 := 0) (g2 := g) (p2 := true) 6 (.bool true) rfl)
        have HR := Lib.hid (RInv.start l 48 (i + 1) hlt)
        clear HD
        go_upto_block 2 with fail
        go_cut [7] (fun v wx => ∃ (k u : Nat), v = .int .i64 (k : Int) ∧ Hid (k = i + 1 + u) ∧ Hid (k ≤ l.length) ∧ Hid (runP (fun c => c == 48) (l.drop (i + 1)) = u) ∧ Hid (QIn w z u 0 g true wx))
        case first =>
          clear HP
          go_wp2_with fail
          go_loopw [7] (fun v wr => ∃ (k u : Nat), v = .int .i64 (k : Int) ∧ Hid (k = i + 1 + u) ∧ Hid (RInv l 48 (i + 1) k) ∧ Hid (QIn w z u 0 g true wr)) (fun v _ => l.length - (intOf v).toNat)
          case atStart => exact ⟨i + 1, 0, by go_num, Lib.hid rfl, HR, HD1⟩
          case round =>
            obtain ⟨k, u, rfl, hku, hq, hD⟩ := hrel
            clear HR HD1 c6 f6
            have hlek := hq.out.2.1
            have HLE := Lib.hid hlek
            have c3 := hD.out.part.cell 3
            have f3 := hD.out.part.frozen 3
            simp only [rpartC, List.getElem?_toArray, List.getElem?_cons_zero, List.getElem?_cons_succ] at c3
            by_cases hk : k < l.length
            · have e48 := at_beq l k 48 48 rfl hk
              cases h48 : atIs l k 48
              · rw [h48] at e48
                have hst := Lib.hid (hq.out.stop (fun _ => h48))
                clear hq c3 f3
                rw [hku.out, Nat.add_sub_cancel_left] at hst
                go_wp2_with fail
                go_meet
                exact ⟨k, u, rfl, hku, HLE, hst, hD⟩
              · rw [h48] at e48
                have hst := Lib.hid (hq.out.step hk h48)
                have hub : u ≤ 1000000 := by have := hku.out; omega
                have hD2 := Lib.hid (hD.out.put (z2 := z) (u2 := u + 1) (m2 := 0) (g2 := g) (p2 := true) 3 (.int .i64 ((u : Int) + 1)) rfl)
                clear hq hD
                go_wp2_with fail
                go_roundw
                case rel => exact ⟨k + 1, u + 1, by go_num, Lib.hid (by have := hku.out; omega), hst, hD2⟩
                case measure => simp [intOf]; omega
            · have hst := Lib.hid (hq.out.stop (fun h => absurd h hk))
              clear hq c3 f3
              rw [hku.out, Nat.add_sub_cancel_left] at hst
              go_wp2_with fail
              go_meet
              exact ⟨k, u, rfl, hku, HLE, hst, hD⟩
        case rest =>
          obtain ⟨k, u, rfl, hku, hkl, hu, HD⟩ := hcut
          clear HR HD1 c6 f6
          have HP2 : Hid (∀ q, runP (fun c => c == 35) (l.drop k) = q → N = k + q - a) := Lib.hid (fun q hq => by rw [hku.out] at hq ⊢; exact HP.out u q hu.out hq)
          have hkl2 := hkl.out
          have HR := Lib.hid (RInv.start l 35 k hkl2)
          clear HP hu hkl
          go_upto_block 4 with fail
          go_cut [7] (fun v wx => ∃ (k2 m : Nat), v = .int .i64 (k2 : Int) ∧ Hid (k2 = k + m) ∧ Hid (k2 ≤ l.length) ∧ Hid (runP (fun c => c == 35) (l.drop k) = m) ∧ Hid (QIn w z u m g true wx))
          case first =>
            clear HP2
            go_wp2_with fail
            go_loopw [7] (fun v wr => ∃ (k2 m : Nat), v = .int .i64 (k2 : Int) ∧ Hid (k2 = k + m) ∧ Hid (RInv l 35 k k2) ∧ Hid (QIn w z u m g true wr)) (fun v _ => l.length - (intOf v).toNat)
            case atStart => exact ⟨k, 0, by go_num, Lib.hid rfl, HR, HD⟩
            case round =>
              obtain ⟨k2, m, rfl, hkm, hq, hD⟩ := hrel
              clear HR HD
              have hlek := hq.out.2.1
              have HLE := Lib.hid hlek
              have c4 := hD.out.part.cell 4
              have f4 := hD.out.part.frozen 4
              simp only [rpartC, List.getElem?_toArray, List.getElem?_cons_zero, List.getElem?_cons_succ] at c4
              by_cases hk : k2 < l.length
              · have e35 := at_beq l k2 35 35 rfl hk
                cases h35 : atIs l k2 35
                · rw [h35] at e35
                  have hst := Lib.hid (hq.out.stop (fun _ => h35))
                  clear hq c4 f4
                  rw [hkm.out, Nat.add_sub_cancel_left] at hst
                  go_wp2_with fail
                  go_meet
                  exact ⟨k2, m, rfl, hkm, HLE, hst, hD⟩
                · rw [h35] at e35
                  have hst := Lib.hid (hq.out.step hk h35)
                  have hub : m ≤ 1000000 := by have := hkm.out; omega
                  have hD2 := Lib.hid (hD.out.put (z2 := z) (u2 := u) (m2 := m + 1) (g2 := g) (p2 := true) 4 (.int .i64 ((m : Int) + 1)) rfl)
                  clear hq hD
                  go_wp2_with fail
                  go_roundw
                  case rel => exact ⟨k2 + 1, m + 1, by go_num, Lib.hid (by have := hkm.out; omega), hst, hD2⟩
                  case measure => simp [intOf]; omega
              · have hst := Lib.hid (hq.out.stop (fun h => absurd h hk))
                clear hq c4 f4
                rw [hkm.out, Nat.add_sub_cancel_left] at hst
                go_wp2_with fail
                go_meet
                exact ⟨k2, m, rfl, hkm, HLE, hst, hD⟩
          case rest =>
            obtain ⟨k2, m, rfl, hkm, hkl, hm, HD2⟩ := hcut
            clear HR HD
            have hr : Hid (N = k2 - a) := Lib.hid (by rw [HP2.out m hm.out, hkm.out])
            have hak : a ≤ k2 := by have := hkm.out; have := hku.out; omega
            have hkl3 := hkl.out
            obtain ⟨p0, p1, p2, p3, p4, p5, p6⟩ := rlies_cells HD2.out.part
            obtain ⟨r0, r1, r2, r3, r4, r5, r6⟩ := rlies_cells HD2.out.res
            have RF := HD2.out.res
            have rf0 := RF.frozen 0
            have rf1 := RF.frozen 1
            have rf2 := RF.frozen 2
            have rf3 := RF.frozen 3
            have rf4 := RF.frozen 4
            have rf5 := RF.frozen 5
            have rf6 := RF.frozen 6
            have rlt := RF.lt
            have HB := Lib.hid HD2.out.bel
            clear RF HD2 HP2 hm hkm hku hkl
            go_wp2_with fail
            refine bodyPost_ret (v := .tuple #[.agg #[.int .i64 3, .string ⟨#[]⟩, .int .i64 z, .int .i64 u, .int .i64 m, .bool g, .bool true], .int .i64 ((k2 : Int) - a)]) (by simp [results, Tryd.results69, go_sem, r0, r1, r2, r3, r4, r5, r6]) rfl ?_
            exact ⟨3, z, u, m, g, true, by rw [hr.out, Int.ofNat_sub hak], below_put7 HB.out _ _ _ _ _ _ _⟩
end Go.Proofs.YteccjdclkcipbaaDoor
