/-
  counterpaneref01.run, power, Parse: what they return.
-/
import Derived.Test.YteccjdclkcipbaaGreatDoorKit
import Derived.Test.YteccjdclkcipbaaGreatDoorPlainW
import Derived.Test.YteccjdclkcipbaaGreatDoorRefA6
namespace Go.Proofs.YteccjdclkcipbaaGreatDoor
open Go.RowKit

set_option maxHeartbeats 800000 in
theorem rrun_any (l : Bs) (k : Nat) (w : World) (hs : l.length ≤ 1000000) (hk : k ≤ l.length) :
    Calls Tryz.prog 83 #[.string ⟨l.toArray⟩, .int .i64 k] w fun e w' => e = .returned (.int .i64 (runP isDigit (l.drop k))) ∧ w = w' := by
  have hdl : (l.drop k).length = l.length - k := List.length_drop
  have hle := runP_le isDigit (l.drop k)
  rw [hdl] at hle
  have HDL := Lib.hid hdl
  clear hdl
  go_enter Tryz.func83, Tryz.ntmps83
  go_wp2
  go_loop [5] (fun i => ∃ j : Nat, k + j ≤ l.length ∧ i = .int .i64 j ∧ j ≤ runP isDigit (l.drop k)) (fun i => l.length - (intOf i).toNat)
  case atStart => exact ⟨0, hk, rfl, Nat.zero_le _⟩
  case round =>
    obtain ⟨j, hj, rfl, hr⟩ := hrel
    by_cases hlt : k + j < l.length
    · have hlt2 : j < (l.drop k).length := by rw [HDL.out]; omega
      have hg : (l.drop k)[j] = l[k + j] := List.getElem_drop ..
      cases hd : isDigit l[k + j]
      · have HQ := Lib.hid (runP_eq _ _ _ hr hlt2 (by rw [hg]; exact hd))
        have hno : ¬ (48 ≤ (l[k + j].toNat : Int) ∧ (l[k + j].toNat : Int) ≤ 57) := by
          intro h
          have : isDigit l[k + j] = true := (isDigit_iff _).2 ⟨by omega, by omega⟩
          rw [hd] at this; cases this
        clear hlt2 hg
        go_wp2_with fail
        all_goals go_ret
        all_goals exact ⟨ret_int (by rw [HQ.out]), rfl⟩
      · have hq := runP_step _ _ _ hr hlt2 (by rw [hg]; exact hd)
        obtain ⟨d1, d2⟩ := (isDigit_iff _).1 hd
        clear hlt2 hg
        go_wp2_with fail
        go_round
        case rel => exact ⟨j + 1, by omega, by go_num, hq⟩
        case measure => simp [intOf]; omega
    · have hq : runP isDigit (l.drop k) = j := by omega
      have HQ := Lib.hid hq
      clear hq
      go_wp2_with fail
      go_ret
      exact ⟨ret_int (by rw [HQ.out]), rfl⟩
def powOut (p : Option (Bool × List Nat)) : Value := match p with | none => .tuple #[.int .i64 0, .bool false] | some q => .tuple #[.int .i64 (if q.1 then -(powR q.2 : Int) else powR q.2), .bool true]
theorem powR_snoc (L : List Nat) (d : Nat) : powR (L ++ [d]) = rStep (powR L) d := by unfold powR; rw [List.foldl_append]; rfl
set_option maxRecDepth 100000 in
set_option maxHeartbeats 3200000 in
theorem rpower_any (l : Bs) (w : World) (hs : l.length ≤ 1000) :
    Calls Tryz.prog 84 #[.string ⟨l.toArray⟩] w fun e w' => e = .returned (powOut (pPowT l)) ∧ w = w' := by
  cases l with
  | nil =>
    go_enter Tryz.func84, Tryz.ntmps84
    go_wp2_with fail
    go_ret2
    exact ⟨rfl, rfl⟩
  | cons c t =>
    have hP : pPowT (c :: t) = if c = 101 ∨ c = 69 then
      (if runP isDigit (t.drop (if atIs t 0 43 || atIs t 0 45 then 1 else 0)) = 0 ∨ (if atIs t 0 43 || atIs t 0 45 then 1 else 0) + runP isDigit (t.drop (if atIs t 0 43 || atIs t 0 45 then 1 else 0)) ≠ t.length then none else some (atIs t 0 45, digL (t.drop (if atIs t 0 43 || atIs t 0 45 then 1 else 0))))
      else none := rfl
    have HP := Lib.hid hP
    have h0 : 0 < (c :: t).length := by simp
    have e101 := at_bne (c :: t) 0 101 101 rfl h0
    have e69 := at_bne (c :: t) 0 69 69 rfl h0
    have a101 : atIs (c :: t) 0 101 = (c == 101) := by unfold atIs; simp
    have a69 : atIs (c :: t) 0 69 = (c == 69) := by unfold atIs; simp
    rw [a101] at e101
    rw [a69] at e69
    have hem : ((c :: t) == []) = false := rfl
    obtain ⟨out, hout⟩ : ∃ out, powOut (pPowT (c :: t)) = out := ⟨_, rfl⟩
    rw [hout]
    have HOut := Lib.hid hout
    have HA : Hid (∀ n d, atIs (c :: t) (n + 1) d = atIs t n d) := Lib.hid (fun n d => rfl)
    have HDr : Hid (∀ n, List.drop (n + 1) (c :: t) = List.drop n t) := Lib.hid (fun n => rfl)
    have HLen : Hid ((c :: t).length = t.length + 1) := Lib.hid rfl
    clear hout hP a101 a69
    generalize hl : c :: t = l at *
    have hlp : l.length = t.length + 1 := HLen.out
    clear hl
    by_cases hc : c = 101 ∨ c = 69
    · rw [if_pos hc] at HP
      have hci : (!(c == 101)) = true → (!(c == 69)) = false := by
        rcases hc with e | e <;> subst e <;> decide
      have hci2 : (c == 101) = true ∨ ((c == 101) = false ∧ (c == 69) = true) := by rcases hc with e | e <;> subst e <;> decide
      obtain ⟨j, hj⟩ : ∃ j : Nat, (if atIs t 0 43 || atIs t 0 45 then 1 else 0) = j := ⟨_, rfl⟩
      rw [hj] at HP
      have HJ := Lib.hid hj
      have hj1 : j ≤ 1 := by rw [← hj]; split <;> omega
      have HCI := Lib.hid hci2
      clear hc hci hci2 hj
      go_enter Tryz.func84, Tryz.ntmps84
      go_upto_region 3 with fail
      go_cut [18] (fun v wx => v = .bool false ∧ w = wx)
      case first =>
        rcases HCI.out with h | ⟨h1, h2⟩
        · rw [h] at e101
          go_wp2_with fail
          go_meet
          exact ⟨rfl, rfl⟩
        · rw [h1] at e101
          rw [h2] at e69
          go_wp2_with fail
          go_meet
          exact ⟨rfl, rfl⟩
      case rest =>
        obtain ⟨rfl, rfl⟩ := hcut
        clear e101 e69 HCI
        go_upto_region 7 with fail
        go_cut [31] (fun v wx => v = .bool (atIs t 0 43 || atIs t 0 45) ∧ w = wx)
        case first =>
          by_cases h1 : 1 < l.length
          · have e43 := at_beq l 1 43 43 rfl h1
            have e45 := at_beq l 1 45 45 rfl h1
            rw [HA.out 0 43] at e43
            rw [HA.out 0 45] at e45
            cases q1 : atIs t 0 43 <;> cases q2 : atIs t 0 45
            all_goals rw [q1] at e43; rw [q2] at e45
            all_goals go_wp2_with fail
            all_goals go_meet
            all_goals exact ⟨by rw [q1, q2]; rfl, rfl⟩
          · have q1 := at_out t 0 43 (by omega)
            have q2 := at_out t 0 45 (by omega)
            go_wp2_with fail
            go_meet
            exact ⟨by rw [q1, q2]; rfl, rfl⟩
        case rest =>
          obtain ⟨rfl, rfl⟩ := hcut
          go_upto_if 31 with fail
          go_cut [4, 5] (fun v4 v5 wx => v4 = .int .i64 ((j : Int) + 1) ∧ v5 = .bool (atIs t 0 45) ∧ w = wx)
          case first =>
            cases q1 : (atIs t 0 43 || atIs t 0 45)
            · have q2 : atIs t 0 45 = false := (Bool.or_eq_false_iff.1 q1).2
              have hj0 : Hid (j = 0) := Lib.hid (by rw [← HJ.out, q1]; rfl)
              go_wp2_with fail
              go_meet
              exact ⟨by rw [hj0.out]; rfl, by rw [q2], rfl⟩
            · have hj0 : Hid (j = 1) := Lib.hid (by rw [← HJ.out, q1]; rfl)
              have hl1 : 1 < l.length := by
                rcases Bool.or_eq_true_iff.1 q1 with h | h
                · have := at_lt _ _ _ h; omega
                · have := at_lt _ _ _ h; omega
              have e45 := at_beq l 1 45 45 rfl hl1
              rw [HA.out 0 45] at e45
              go_wp2_with fail
              go_meet
              exact ⟨by rw [hj0.out]; rfl, rfl, rfl⟩
          case rest =>
            obtain ⟨rfl, rfl, rfl⟩ := hcut
            have hjl : j + 1 ≤ l.length := by
              rcases (by omega : j = 0 ∨ j = 1) with e | e
              · omega
              · have h1 := HJ.out
                rw [e] at h1
                cases q1 : (atIs t 0 43 || atIs t 0 45)
                · rw [q1] at h1; cases h1
                · rcases Bool.or_eq_true_iff.1 q1 with h | h
                  · have := at_lt _ _ _ h; omega
                  · have := at_lt _ _ _ h; omega
            have hrun := Lib.hid (fun W => rrun_any l (j + 1) W (by omega) hjl)
            rw [HDr.out j] at hrun
            have hrle := runP_le isDigit (t.drop j)
            rw [List.length_drop] at hrle
            have hcast : (((j + 1 : Nat) : Nat) : Int) = (j : Int) + 1 := by omega
            rw [hcast] at hrun
            clear hcast HJ
            generalize atIs t 0 45 = ng at *
            go_wp2_with fail
            refine (hrun.out _).mono ?_
            rintro e w' ⟨rfl, rfl⟩
            have HRn : Hid (∀ q (h : q < (t.drop j).length), q < runP isDigit (t.drop j) → isDigit (t.drop j)[q] = true) := Lib.hid (fun q h h' => runP_lt isDigit (t.drop j) q h' h)
            generalize runP isDigit (t.drop j) = r at *
            by_cases hr0 : r = 0
            · have hN : Hid (pPowT l = none) := Lib.hid (by rw [HP.out, if_pos (.inl hr0)])
              subst hr0
              go_wp2_with fail
              go_ret2
              exact ⟨by rw [← HOut.out, hN.out]; rfl, rfl⟩
            have br0 : ((r : Int) == 0) = false := by rw [beq_eq_false_iff_ne]; omega
            by_cases hrl : j + r = t.length
            · have hN : Hid (pPowT l = some (ng, digL (t.drop j))) := Lib.hid (by rw [HP.out, if_neg (by omega)])
              have bne : ((j : Int) + 1 + (r : Int) != (l.length : Int)) = false := by rw [bne_eq_false_iff_eq]; omega
              have hdl : (t.drop j).length = r := by rw [List.length_drop]; omega
              have HDl := Lib.hid hdl
              clear HP hdl hr0
              go_wp2_with fail
              go_loop [7, 8] (fun v i => ∃ q : Nat, q ≤ r ∧ i = .int .i64 ((j : Int) + 1 + q) ∧ v = .int .i64 (powR (digL ((t.drop j).take q)))) (fun _ i => l.length - (intOf i).toNat)
              case atStart => exact ⟨0, Nat.zero_le _, by simp, rfl⟩
              case round =>
                obtain ⟨q, hq, rfl, rfl⟩ := hrel
                by_cases hlt : q < r
                · have hqt : q < (t.drop j).length := by rw [HDl.out]; exact hlt
                  have hql : j + 1 + q < l.length := by omega
                  have hge : l[j + 1 + q] = (t.drop j)[q] := by
                    have h1 : (l.drop (j + 1))[q]? = (t.drop j)[q]? := by rw [HDr.out j]
                    rw [List.getElem?_drop, List.getElem?_eq_getElem hql, List.getElem?_eq_getElem hqt] at h1
                    injection h1
                  have hdg := (isDigit_iff _).1 (HRn.out q hqt hlt)
                  have hpr : powR (digL ((t.drop j).take (q + 1))) = rStep (powR (digL ((t.drop j).take q))) ((t.drop j)[q].toNat - 48) := by
                    rw [List.take_succ_eq_append_getElem hqt, digL_append]
                    exact powR_snoc _ _
                  have HPr := Lib.hid hpr
                  have hpl := powR_le (digL ((t.drop j).take q))
                  rw [← hge] at hdg HPr
                  clear hqt hge hpr
                  generalize powR (digL ((t.drop j).take q)) = y at *
                  obtain ⟨d1, d2⟩ := hdg
                  generalize hzz : l[j + 1 + q].toNat = z at *
                  have hget : (l[j + 1 + q].toNat : Int) = (z : Int) := by rw [hzz]
                  clear hzz
                  have hidx : ((j : Int) + 1 + (q : Int)).toNat = j + 1 + q := by omega
                  by_cases hb : 1000 < 10 * y + (z - 48)
                  · have hR : Hid (rStep y (z - 48) = 1000) := Lib.hid (if_pos hb)
                    have hbI : (1000 : Int) < 10 * (y : Int) + (z : Int) - 48 := by omega
                    clear hb
                    go_wp2_with fail
                    go_round
                    case rel => exact ⟨q + 1, by omega, by go_num, by rw [HPr.out, hR.out]; rfl⟩
                    case measure => simp [intOf]; omega
                  · have hR : Hid (rStep y (z - 48) = 10 * y + (z - 48)) := Lib.hid (if_neg hb)
                    have hbI : ¬ (1000 : Int) < 10 * (y : Int) + (z : Int) - 48 := by omega
                    have hcc : Hid (((10 * y + (z - 48) : Nat) : Int) = 10 * (y : Int) + (z : Int) - 48) := Lib.hid (by omega)
                    clear hb
                    go_wp2_with fail
                    go_round
                    case rel => exact ⟨q + 1, by omega, by go_num, by rw [HPr.out, hR.out, hcc.out]⟩
                    case measure => simp [intOf]; omega
                · have hall : Hid ((t.drop j).take q = t.drop j) := Lib.hid (List.take_of_length_le (by rw [HDl.out]; omega))
                  rw [hall.out]
                  have hpl := powR_le (digL (t.drop j))
                  have hO : Hid (out = .tuple #[.int .i64 (if ng then -(powR (digL (t.drop j)) : Int) else powR (digL (t.drop j))), .bool true]) := Lib.hid (by rw [← HOut.out, hN.out]; rfl)
                  clear hall hN
                  generalize powR (digL (t.drop j)) = y at *
                  have hlt2 : ¬ ((j : Int) + 1 + (q : Int)) < (l.length : Int) := by omega
                  cases ng
                  · go_wp2_with fail
                    go_ret2
                    exact ⟨by rw [hO.out]; rfl, rfl⟩
                  · go_wp2_with fail
                    go_ret2
                    exact ⟨by rw [hO.out]; rfl, rfl⟩
            · have hN : Hid (pPowT l = none) := Lib.hid (by rw [HP.out, if_pos (.inr hrl)])
              have bne : ((j : Int) + 1 + (r : Int) != (l.length : Int)) = true := by rw [bne_iff_ne]; omega
              clear hrl HP
              go_wp2_with fail
              go_ret2
              exact ⟨by rw [← HOut.out, hN.out]; rfl, rfl⟩
    · rw [if_neg hc] at HP
      have n1 : (c == 101) = false := by rw [beq_eq_false_iff_ne]; exact fun e => hc (.inl e)
      have n2 : (c == 69) = false := by rw [beq_eq_false_iff_ne]; exact fun e => hc (.inr e)
      rw [n1] at e101
      rw [n2] at e69
      clear hc HA HDr
      go_enter Tryz.func84, Tryz.ntmps84
      go_wp2_with fail
      go_ret2
      exact ⟨by rw [← HOut.out, HP.out]; rfl, rfl⟩
/-- what Parse holds on its way: the result's block, the decimal's, its digits from there on -/
structure PS (w : World) (neg : Bool) (v : Value) (D : List Nat) (wr : World) : Prop where
  res : Lies wr w.heap.size 36 #[.int .i64 0, .int .i64 0]
  box : Lies wr (w.heap.size + 1) 91 #[.bool neg, v, .int .i64 0]
  own : wr.ownsRow (w.heap.size + 2) 3 1 v D.length (D.map intV)
  bel : Below w.heap.size w wr
  big : w.heap.size + 2 ≤ wr.heap.size
theorem PS.start (w : World) (ng : Bool) : PS w ng (.slice none 0 0) [] ((w.alloc (.cells #[.int .i64 0, .int .i64 0] 36)).alloc (.cells #[.bool ng, .slice none 0 0, .int .i64 0] 91)) := by
  refine ⟨(Lies.new _ _ _).alloc _, ?_, ⟨rfl, .inl ⟨rfl, rfl⟩⟩, ((Below.refl _ w).alloc (Nat.le_refl _) _).alloc (by simp) _, by simp⟩
  have := Lies.new (w.alloc (.cells #[.int .i64 0, .int .i64 0] 36)) 91 #[.bool ng, .slice none 0 0, .int .i64 0]
  simpa using this
/-- a digit more -/
theorem PS.more {w wr w1 : World} {ng : Bool} {v : Value} {D : List Nat} {d g cap : Nat} (h : PS w ng v D wr) (h1 : w1.ownsRow (w.heap.size + 2) 3 1 (.slice (some ⟨g, 0, none⟩) (D.length + 1) cap) (D.length + 1) (D.map intV ++ [intV d]))
    (hg : ((wr.alloc (.cells #[intV d] 3)).drew).grownBy w1 v.ownBlock) : Lies w1 (w.heap.size + 1) 91 #[.bool ng, v, .int .i64 0] ∧ PS w ng (.slice (some ⟨g, 0, none⟩) (D.length + 1) cap) (D ++ [d]) (w1.setCell ⟨w.heap.size + 1, 1, none⟩ (.slice (some ⟨g, 0, none⟩) (D.length + 1) cap)) := by
  have hrow := own_ge h.own
  have hb1 : Below (w.heap.size + 2) wr w1 := (((Below.refl _ wr).alloc h.big _).drew).grown hg (by have := h.big; simp; omega) hrow
  have hbox : Lies w1 (w.heap.size + 1) 91 #[.bool ng, v, .int .i64 0] := (hb1.block _ (by omega)).trans h.box
  refine ⟨hbox, (Below.heap_setCell _ _ _ _ (by show w.heap.size ≠ w.heap.size + 1; omega)).trans ((hb1.block _ (by omega)).trans h.res), hbox.put 1 _, ?_, ?_, ?_⟩
  · have := ownsRow_setCell_below h1 (a := ⟨w.heap.size + 1, 1, none⟩) (by show w.heap.size + 1 < w.heap.size + 2; omega) (.slice (some ⟨g, 0, none⟩) (D.length + 1) cap)
    simpa using this
  · exact (h.bel.trans (hb1.mono (by omega))).setCell (p := ⟨w.heap.size + 1, 1, none⟩) (by show w.heap.size ≤ w.heap.size + 1; omega) _
  · have := hb1.size
    have := h.big
    simp
    omega
set_option maxRecDepth 100000 in
set_option maxHeartbeats 12800000 in
theorem rparse_any (l : Bs) (w : World) (hl : l.length ≤ 1000000) :
    Calls Tryz.prog 57 #[.string ⟨l.toArray⟩] w fun e w' => e = .returned (numOut (rParse l)) ∧ Below w.heap.size w w' := by
  obtain ⟨i0, hi, hz0, hz1, hz2⟩ := info_parts infoI64
  obtain ⟨out, hout⟩ : ∃ out, numOut (rParse l) = out := ⟨_, rfl⟩
  rw [hout]
  have HOut := Lib.hid hout
  clear hout
  by_cases h255 : 255 < l.length
  · have hN : Hid (rParse l = none) := Lib.hid (if_pos h255)
    go_enter Tryz.func57, Tryz.ntmps57
    go_wp2_with fail
    refine bodyPost_ret (v := .tuple #[.agg #[.int .i64 0, .int .i64 0], .bool false]) (by simp [results, Tryz.results57, go_sem]) rfl ?_
    exact ⟨by rw [← HOut.out, hN.out]; rfl, (Below.refl _ _).alloc (Nat.le_refl _) _⟩
  have hT : pNumT l = (if atIs l ((if atIs l 0 45 then 1 else 0) + runP isDigit (l.drop (if atIs l 0 45 then 1 else 0))) 46 then
      (if runP isDigit (l.drop ((if atIs l 0 45 then 1 else 0) + runP isDigit (l.drop (if atIs l 0 45 then 1 else 0)) + 1)) = 0 then none else (pPowT (l.drop ((if atIs l 0 45 then 1 else 0) + runP isDigit (l.drop (if atIs l 0 45 then 1 else 0)) + 1 + runP isDigit (l.drop ((if atIs l 0 45 then 1 else 0) + runP isDigit (l.drop (if atIs l 0 45 then 1 else 0)) + 1))))).map fun p => (atIs l 0 45, digL ((l.drop (if atIs l 0 45 then 1 else 0)).take (runP isDigit (l.drop (if atIs l 0 45 then 1 else 0)))) ++ digL ((l.drop ((if atIs l 0 45 then 1 else 0) + runP isDigit (l.drop (if atIs l 0 45 then 1 else 0)) + 1)).take (runP isDigit (l.drop ((if atIs l 0 45 then 1 else 0) + runP isDigit (l.drop (if atIs l 0 45 then 1 else 0)) + 1)))), runP isDigit (l.drop ((if atIs l 0 45 then 1 else 0) + runP isDigit (l.drop (if atIs l 0 45 then 1 else 0)) + 1)), p.1, p.2))
    else if runP isDigit (l.drop (if atIs l 0 45 then 1 else 0)) = 0 then none else (pPowT (l.drop ((if atIs l 0 45 then 1 else 0) + runP isDigit (l.drop (if atIs l 0 45 then 1 else 0))))).map fun p => (atIs l 0 45, digL ((l.drop (if atIs l 0 45 then 1 else 0)).take (runP isDigit (l.drop (if atIs l 0 45 then 1 else 0)))), 0, p.1, p.2)) := rfl
  have HR : Hid (rParse l = (pNumT l).bind finNum2) := Lib.hid (if_neg h255)
  obtain ⟨i, hi0⟩ : ∃ i : Nat, (if atIs l 0 45 then 1 else 0) = i := ⟨_, rfl⟩
  rw [hi0] at hT
  have HT := Lib.hid hT
  have HI := Lib.hid hi0
  have hil : i ≤ l.length := by
    rw [← hi0]
    split
    · rename_i h; have := at_lt _ _ _ h; omega
    · omega
  have hi1 : i ≤ 1 := by rw [← hi0]; split <;> omega
  have P0 := Lib.hid (PS.start w)
  clear hT hi0
  go_enter Tryz.func57, Tryz.ntmps57
  go_upto_region 5 with fail
  go_cut [24] (fun v wx => v = .bool (atIs l 0 45) ∧ (w.alloc (.cells #[.int .i64 0, .int .i64 0] 36)).alloc (.cells #[.bool false, .slice none 0 0, .int .i64 0] 91) = wx)
  case first =>
    by_cases h0 : 0 < l.length
    · have e45 := at_beq l 0 45 45 rfl h0
      go_wp2_with fail
      go_meet
      exact ⟨rfl, rfl⟩
    · have q := at_out l 0 45 (by omega)
      go_wp2_with fail
      go_meet
      exact ⟨by rw [q], rfl⟩
  case rest =>
    obtain ⟨rfl, rfl⟩ := hcut
    go_upto_if 24 with fail
    go_cut [5] (fun v wx => v = .int .i64 i ∧ Hid (PS w (atIs l 0 45) (.slice none 0 0) [] wx))
    case first =>
      cases q : atIs l 0 45
      · have hiz : Hid (i = 0) := Lib.hid (by rw [← HI.out, q]; rfl)
        go_wp2_with fail
        go_meet
        exact ⟨by rw [hiz.out]; rfl, Lib.hid (by rw [q]; exact P0.out false)⟩
      · have hiz : Hid (i = 1) := Lib.hid (by rw [← HI.out, q]; rfl)
        go_wp2_with fail
        go_meet
        exact ⟨by rw [hiz.out]; rfl, Lib.hid (by rw [q]; exact P0.out true)⟩
    case rest =>
      obtain ⟨rfl, P1⟩ := hcut
      clear P0 HI
      generalize atIs l 0 45 = ng at *
      have ha := runP_le isDigit (l.drop i)
      rw [List.length_drop] at ha
      go_wp2_with fail
      refine (rrun_any l i _ hl hil).mono ?_
      rintro e w' ⟨rfl, rfl⟩
      have HDg1 := Lib.hid (digL_dig (l.drop i) (runP isDigit (l.drop i)) (Nat.le_refl _))
      have HRl := Lib.hid (fun q h h' => runP_lt isDigit (l.drop i) q h' h)
      have HD1 : Hid (0 < runP isDigit (l.drop i) + 0 → 0 < (digL ((l.drop i).take (runP isDigit (l.drop i)))).length) := Lib.hid (fun h => by rw [digL_len, List.length_take, List.length_drop]; omega)
      generalize runP isDigit (l.drop i) = a at *
      go_wp2_with fail
      go_loopw [8] (fun v wr => ∃ (j : Nat) (u : Value), v = .int .i64 j ∧ j ≤ a ∧ Hid (PS w ng u (digL ((l.drop i).take j)) wr)) (fun v _ => a - (intOf v).toNat)
      case atStart => exact ⟨0, .slice none 0 0, rfl, Nat.zero_le _, P1⟩
      case round =>
        obtain ⟨j, u, rfl, hj, hP⟩ := hrel
        by_cases hlt : j < a
        · have hjl : i + j < l.length := by omega
          have hjd : j < (l.drop i).length := by rw [List.length_drop]; omega
          have hge : (l.drop i)[j] = l[i + j] := List.getElem_drop ..
          have hdg := (isDigit_iff _).1 (HRl.out j hjd hlt)
          have hsn : digL ((l.drop i).take (j + 1)) = digL ((l.drop i).take j) ++ [(l.drop i)[j].toNat - 48] := by rw [List.take_succ_eq_append_getElem hjd, digL_append]; rfl
          rw [hge] at hdg hsn
          have HSn := Lib.hid hsn
          have hdl : (digL ((l.drop i).take j)).length = j := by rw [digL_len, List.length_take, List.length_drop]; omega
          have HDl := Lib.hid hdl
          obtain ⟨d1, d2⟩ := hdg
          have d0 := hP.out.box.cell 1
          have f1 := hP.out.box.frozen 1
          simp at d0
          have hbig := hP.out.big
          have hbg1 : w.heap.size + 1 < wr.heap.size := by omega
          have hbg2 : ¬ w.heap.size + 1 = wr.heap.size := by omega
          have HO := Lib.hid hP.out.own
          have hidx : ((i : Int) + (j : Int)).toNat = i + j := by omega
          have hx0 : (0 : Int) ≤ (i : Int) + (j : Int) := by omega
          have hx1 : (i : Int) + (j : Int) < (l.length : Int) := by omega
          have hw1 : IntKind.i64.wrap ((i : Int) + (j : Int)) = (i : Int) + (j : Int) := IntWalk.i64_in _ (by omega)
          clear hsn hdl hge hjd
          obtain ⟨z, hz⟩ : ∃ z : Nat, l[i + j].toNat = z := ⟨_, rfl⟩
          have hzI : (l[i + j].toNat : Int) = (z : Int) := by rw [hz]
          have hw3 : IntKind.i64.wrap (z : Int) = (z : Int) := IntWalk.i64_in _ (by omega)
          have hw2 : IntKind.i64.wrap ((z : Int) - 48) = (z : Int) - 48 := IntWalk.i64_in _ (by omega)
          rw [hz] at HSn d1 d2
          have HV : Hid (intV (z - 48) = .int .i64 ((z : Int) - 48)) := Lib.hid (by unfold intV; congr 1; omega)
          clear hz
          generalize digL ((l.drop i).take j) = D at *
          have h63 : D.length + 1 ≤ maxLen := by rw [HDl.out]; unfold maxLen; omega
          have h47 : (D.length + 1) * 8 ≤ 140737488355328 := by rw [HDl.out]; omega
          go_wp2_with fail
          go_region_law (refine step_append_lies _ (by rfl) _ _ _ (by rfl) (w.heap.size + 2) 3 i0 _ 1 8 Tryz.underlying89 hi hz0 hz1 hz2 rfl (by omega) u D.length (D.map intV) (by rfl) ((HO.out.alloc _).drew) ⟨wr.heap.size, 0, none⟩ 1 1 [.int .i64 ((z : Int) - 48)] (by rfl) (by rfl) (World.news_of_block (cs := #[.int .i64 ((z : Int) - 48)]) (t := 3) (fr := (0, 0)) (heap_alloc_new wr _)) (fun x hx => by simp at hx; subst hx; rfl) (by omega) h63 h47 (by simp; omega) (wr.heap.size + 1) (by simp) ?_; intro gg cap2 w1 hown1 hgrow hat hlt1; have hgrow2 : ((wr.alloc (.cells #[intV (z - 48)] 3)).drew).grownBy w1 u.ownBlock := (by rw [HV.out]; exact hgrow); have hown2 := hown1; rw [← HV.out] at hown2; obtain ⟨hbx, hps⟩ := PS.more hP.out hown2 hgrow2; have d5 := hbx.cell 1; have f5 := hbx.frozen 1; simp at d5; have HPS := Lib.hid hps; clear hown1 hgrow hat hlt1 hgrow2 hown2 hbx hps)
          all_goals go_wp2_with fail
          all_goals go_roundw
          all_goals first
            | exact ⟨j + 1, .slice (some ⟨gg, 0, none⟩) (D.length + 1) cap2, by go_num, by omega, Lib.hid (by rw [HSn.out]; exact HPS.out)⟩
            | (simp [intOf]; omega)
        · have hja : j = a := by omega
          subst hja
          clear hj hlt HRl P1
          obtain ⟨p, hp⟩ : ∃ p, i + j = p := ⟨_, rfl⟩
          have ep : (i : Int) + (j : Int) = (p : Int) := by omega
          have hpl : p ≤ l.length := by omega
          have hDl1 : (digL ((l.drop i).take j)).length ≤ 255 := by rw [digL_len, List.length_take, List.length_drop]; omega
          rw [hp] at HT
          have HP := Lib.hid hp
          generalize digL ((l.drop i).take j) = D1 at *
          clear hp
          go_upto_region 15 with fail
          go_cut [58] (fun v wx => v = .bool (atIs l p 46) ∧ wr = wx)
          case first =>
            by_cases h0 : p < l.length
            · have e46 := at_beq l p 46 46 rfl h0
              go_wp2_with fail
              go_meet
              exact ⟨rfl, rfl⟩
            · have q := at_out l p 46 (by omega)
              go_wp2_with fail
              go_meet
              exact ⟨by rw [q], rfl⟩
          case rest =>
            obtain ⟨rfl, rfl⟩ := hcut
            go_upto_if 58 with fail
            go_cut [5, 7] (fun v5 v7 wx => ∃ (i2 bh : Nat) (u2 : Value) (D2 : List Nat), v5 = .int .i64 i2 ∧ v7 = .int .i64 bh ∧ i2 ≤ l.length ∧ bh ≤ 255 ∧ D2.length ≤ 600 ∧ Hid (Dig D2) ∧ Hid (0 < j + bh → 0 < D2.length) ∧ Hid (PS w ng u2 D2 wx) ∧ Hid (pNumT l = if j + bh = 0 then none else (pPowT (l.drop i2)).map fun p => (ng, D2, bh, p.1, p.2)))
            case first =>
              cases h46 : atIs l p 46
              · rw [h46, if_neg (by decide)] at HT
                go_wp2_with fail
                go_meet
                exact ⟨p, 0, u, D1, rfl, rfl, hpl, by omega, by omega, HDg1, HD1, hP, Lib.hid (by rw [HT.out]; rfl)⟩
              · rw [h46, if_pos rfl] at HT
                have hpl2 := at_lt _ _ _ h46
                have hrun := Lib.hid (fun W => rrun_any l (p + 1) W hl hpl2)
                have hcast : (((p + 1 : Nat) : Nat) : Int) = (p : Int) + 1 := by omega
                rw [hcast] at hrun
                have hb := runP_le isDigit (l.drop (p + 1))
                rw [List.length_drop] at hb
                have HDg2 := Lib.hid (digL_dig (l.drop (p + 1)) (runP isDigit (l.drop (p + 1))) (Nat.le_refl _))
                have HRl2 := Lib.hid (fun q h h' => runP_lt isDigit (l.drop (p + 1)) q h' h)
                clear hcast h46
                generalize runP isDigit (l.drop (p + 1)) = b at *
                go_wp2_with fail
                refine (hrun.out _).mono ?_
                rintro e w' ⟨rfl, rfl⟩
                clear hrun
                by_cases hb0 : b = 0
                · rw [if_pos hb0] at HT
                  have hN : Hid (rParse l = none) := Lib.hid (by rw [HR.out, HT.out]; rfl)
                  have q0 := hP.out.res.cell 0
                  have q1 := hP.out.res.cell 1
                  have g0 := hP.out.res.frozen 0
                  have g1 := hP.out.res.frozen 1
                  simp at q0 q1
                  have HB := Lib.hid hP.out.bel
                  subst hb0
                  go_wp2_with fail
                  refine bodyPost_ret (v := .tuple #[.agg #[.int .i64 0, .int .i64 0], .bool false]) (by simp [results, Tryz.results57, go_sem, q0, q1]) rfl ?_
                  exact ⟨by rw [← HOut.out, hN.out]; rfl, (HB.out.setCell (p := ⟨w.heap.size, 0, none⟩) (Nat.le_refl _) _).setCell (p := ⟨w.heap.size, 1, none⟩) (Nat.le_refl _) _⟩
                · rw [if_neg hb0] at HT
                  have bb0 : ((b : Int) == 0) = false := by rw [beq_eq_false_iff_ne]; omega
                  go_wp2_with fail
                  obtain ⟨wo, rfl⟩ : ∃ wo : World, wo = wr := ⟨_, rfl⟩
                  go_loopw [9] (fun v wr => ∃ (q : Nat) (uq : Value), v = .int .i64 q ∧ q ≤ b ∧ Hid (PS w ng uq (D1 ++ digL ((l.drop (p + 1)).take q)) wr)) (fun v _ => b - (intOf v).toNat)
                  case atStart => exact ⟨0, u, rfl, Nat.zero_le _, Lib.hid (by rw [List.take_zero]; simpa [digL] using hP.out)⟩
                  case round =>
                    obtain ⟨q, uq, rfl, hq, hQ⟩ := hrel
                    by_cases hltq : q < b
                    · have hjl : p + 1 + q < l.length := by omega
                      have hjd : q < (l.drop (p + 1)).length := by rw [List.length_drop]; omega
                      have hge : (l.drop (p + 1))[q] = l[p + 1 + q] := List.getElem_drop ..
                      have hdg := (isDigit_iff _).1 (HRl2.out q hjd hltq)
                      have hsn : D1 ++ digL ((l.drop (p + 1)).take (q + 1)) = (D1 ++ digL ((l.drop (p + 1)).take q)) ++ [(l.drop (p + 1))[q].toNat - 48] := by rw [List.take_succ_eq_append_getElem hjd, digL_append, List.append_assoc]; rfl
                      rw [hge] at hdg hsn
                      have HSn := Lib.hid hsn
                      have hdl : (D1 ++ digL ((l.drop (p + 1)).take q)).length ≤ 600 := by rw [List.length_append, digL_len, List.length_take, List.length_drop]; omega
                      have HDl := Lib.hid hdl
                      obtain ⟨d1, d2⟩ := hdg
                      have d0 := hQ.out.box.cell 1
                      have f1 := hQ.out.box.frozen 1
                      simp at d0
                      have hbig := hQ.out.big
                      have hbg1 : w.heap.size + 1 < wr.heap.size := by omega
                      have hbg2 : ¬ w.heap.size + 1 = wr.heap.size := by omega
                      have HO := Lib.hid hQ.out.own
                      have hidx : ((p : Int) + 1 + (q : Int)).toNat = p + 1 + q := by omega
                      have hx0 : (0 : Int) ≤ (p : Int) + 1 + (q : Int) := by omega
                      have hx1 : (p : Int) + 1 + (q : Int) < (l.length : Int) := by omega
                      have hw1 : IntKind.i64.wrap ((p : Int) + 1 + (q : Int)) = (p : Int) + 1 + (q : Int) := IntWalk.i64_in _ (by omega)
                      have hw0 : IntKind.i64.wrap ((p : Int) + 1) = (p : Int) + 1 := IntWalk.i64_in _ (by omega)
                      clear hsn hdl hge hjd
                      obtain ⟨z, hz⟩ : ∃ z : Nat, l[p + 1 + q].toNat = z := ⟨_, rfl⟩
                      have hzI : (l[p + 1 + q].toNat : Int) = (z : Int) := by rw [hz]
                      have hw3 : IntKind.i64.wrap (z : Int) = (z : Int) := IntWalk.i64_in _ (by omega)
                      have hw2 : IntKind.i64.wrap ((z : Int) - 48) = (z : Int) - 48 := IntWalk.i64_in _ (by omega)
                      rw [hz] at HSn d1 d2
                      have HV : Hid (intV (z - 48) = .int .i64 ((z : Int) - 48)) := Lib.hid (by unfold intV; congr 1; omega)
                      clear hz
                      generalize D1 ++ digL ((l.drop (p + 1)).take q) = D at *
                      have h63 : D.length + 1 ≤ maxLen := by have := HDl.out; unfold maxLen; omega
                      have h47 : (D.length + 1) * 8 ≤ 140737488355328 := by have := HDl.out; omega
                      go_wp2_with fail
                      go_region_law (refine step_append_lies _ (by rfl) _ _ _ (by rfl) (w.heap.size + 2) 3 i0 _ 1 8 Tryz.underlying89 hi hz0 hz1 hz2 rfl (by omega) uq D.length (D.map intV) (by rfl) ((HO.out.alloc _).drew) ⟨wr.heap.size, 0, none⟩ 1 1 [.int .i64 ((z : Int) - 48)] (by rfl) (by rfl) (World.news_of_block (cs := #[.int .i64 ((z : Int) - 48)]) (t := 3) (fr := (0, 0)) (heap_alloc_new wr _)) (fun x hx => by simp at hx; subst hx; rfl) (by omega) h63 h47 (by simp; omega) (wr.heap.size + 1) (by simp) ?_; intro gg cap2 w1 hown1 hgrow hat hlt1; have hgrow2 : ((wr.alloc (.cells #[intV (z - 48)] 3)).drew).grownBy w1 uq.ownBlock := (by rw [HV.out]; exact hgrow); have hown2 := hown1; rw [← HV.out] at hown2; obtain ⟨hbx, hps⟩ := PS.more hQ.out hown2 hgrow2; have d5 := hbx.cell 1; have f5 := hbx.frozen 1; simp at d5; have HPS := Lib.hid hps; clear hown1 hgrow hat hlt1 hgrow2 hown2 hbx hps)
                      all_goals go_wp2_with fail
                      all_goals go_roundw
                      all_goals first
                        | exact ⟨q + 1, .slice (some ⟨gg, 0, none⟩) (D.length + 1) cap2, by go_num, by omega, Lib.hid (by rw [HSn.out]; exact HPS.out)⟩
                        | (simp [intOf]; omega)
                    · have hqb : q = b := by omega
                      subst hqb
                      obtain ⟨p2, hp2⟩ : ∃ p2, p + 1 + q = p2 := ⟨_, rfl⟩
                      have ep2 : (p : Int) + 1 + (q : Int) = (p2 : Int) := by omega
                      rw [hp2] at HT
                      have HPP := Lib.hid hp2
                      clear hp2
                      go_wp2_with fail
                      go_meet
                      exact ⟨p2, q, uq, D1 ++ digL ((l.drop (p + 1)).take q), rfl, rfl, by have := HPP.out; omega, by omega, by rw [List.length_append, digL_len, List.length_take, List.length_drop]; omega, Lib.hid (HDg1.out.append HDg2.out), Lib.hid (fun _ => by rw [List.length_append, digL_len, List.length_take, List.length_drop]; omega), hQ, Lib.hid (by rw [HT.out, if_neg (by omega)])⟩
            case rest =>
              obtain ⟨i2, bh, u2, D2, rfl, rfl, hi2, hbh, hD2, HDg, HDp, HPS, HN⟩ := hcut
              clear HT HDg1 HD1 hP hDl1 ep hpl HP
              have hpw := Lib.hid (fun W => rpower_any (l.drop i2) W (by rw [List.length_drop]; omega))
              have q0 := HPS.out.res.cell 0
              have q1 := HPS.out.res.cell 1
              have g0 := HPS.out.res.frozen 0
              have g1 := HPS.out.res.frozen 1
              simp at q0 q1
              have HB := Lib.hid HPS.out.bel
              go_wp2_with fail
              refine (hpw.out _).mono ?_
              rintro e w' ⟨rfl, rfl⟩
              clear hpw
              cases hpo : pPowT (l.drop i2) with
              | none =>
                have hN : Hid (rParse l = none) := Lib.hid (by rw [HR.out, HN.out, hpo]; split <;> rfl)
                unfold powOut
                go_wp2_with fail
                refine bodyPost_ret (v := .tuple #[.agg #[.int .i64 0, .int .i64 0], .bool false]) (by simp [results, Tryz.results57, go_sem, q0, q1]) rfl ?_
                exact ⟨by rw [← HOut.out, hN.out]; rfl, (HB.out.setCell (p := ⟨w.heap.size, 0, none⟩) (Nat.le_refl _) _).setCell (p := ⟨w.heap.size, 1, none⟩) (Nat.le_refl _) _⟩
              | some pq =>
                obtain ⟨np, pd⟩ := pq
                obtain ⟨ee, hee⟩ : ∃ ee : Int, (if np then -(powR pd : Int) else powR pd) = ee := ⟨_, rfl⟩
                have hpl := powR_le pd
                have he1 : -1000 ≤ ee := by rw [← hee]; split <;> omega
                have he2 : ee ≤ 1000 := by rw [← hee]; split <;> omega
                have HEE := Lib.hid hee
                have hpo2 : powOut (some (np, pd)) = .tuple #[.int .i64 ee, .bool true] := by rw [← hee]; rfl
                rw [hpo2]
                clear hpo2 hee hpl
                by_cases hz : j + bh = 0
                · have hN : Hid (rParse l = none) := Lib.hid (by rw [HR.out, HN.out, if_pos hz]; rfl)
                  have bz : ((j : Int) + (bh : Int) == 0) = true := by rw [beq_iff_eq]; omega
                  go_wp2_with fail
                  refine bodyPost_ret (v := .tuple #[.agg #[.int .i64 0, .int .i64 0], .bool false]) (by simp [results, Tryz.results57, go_sem, q0, q1]) rfl ?_
                  exact ⟨by rw [← HOut.out, hN.out]; rfl, (HB.out.setCell (p := ⟨w.heap.size, 0, none⟩) (Nat.le_refl _) _).setCell (p := ⟨w.heap.size, 1, none⟩) (Nat.le_refl _) _⟩
                · have hN : Hid (rParse l = pNear ng (natOf D2) (ee - (bh : Int))) := Lib.hid (by rw [HR.out, HN.out, if_neg hz, hpo]; show pNear ng (natOf D2) ((if np then -(powR pd : Int) else powR pd) - (bh : Int)) = _; rw [HEE.out])
                  have bz : ((j : Int) + (bh : Int) == 0) = false := by rw [beq_eq_false_iff_ne]; omega
                  have hDp := HDp.out (by omega)
                  obtain ⟨g, cap, rfl, hsl, -⟩ := own_isl (base := 0) HPS.out.own (Nat.zero_le _) hDp
                  have hbx := HPS.out.box
                  have x0 := hbx.cell 0
                  have x1 := hbx.cell 1
                  have x2 := hbx.cell 2
                  have y2 := hbx.frozen 2
                  simp at x0 x1 x2
                  have HG : Hid (w.heap.size + 2 ≤ g) := Lib.hid (own_ge HPS.out.own g rfl)
                  have HSl : Hid (ISl (wc.setCell ⟨w.heap.size + 1, 2, none⟩ (.int .i64 (ee - (bh : Int)))) 0 (some ⟨g, 0, none⟩) cap D2) := Lib.hid (by
                    obtain ⟨a1, a2, a3⟩ := hsl
                    refine ⟨a1, a2, fun h => ?_⟩
                    obtain ⟨b, off, e1, e2, e3, e4⟩ := a3 h
                    injection e1 with e1
                    injection e1 with e1 e1b _
                    subst e1
                    subst e1b
                    have := HG.out
                    exact ⟨g, 0, rfl, e2, by simpa using e3, fun j hj => ⟨(World.cell?_setCell_other _ _ _ _ (by intro e5; injection e5 with e6; omega)).trans (e4 j hj).1, by simpa using (e4 j hj).2⟩⟩)
                  have HRs : Hid (Lies (wc.setCell ⟨w.heap.size + 1, 2, none⟩ (.int .i64 (ee - (bh : Int)))) w.heap.size 36 #[.int .i64 0, .int .i64 0]) := Lib.hid ((Below.heap_setCell _ _ _ _ (by show w.heap.size ≠ w.heap.size + 1; omega)).trans HPS.out.res)
                  have HB2 : Hid (Below w.heap.size w (wc.setCell ⟨w.heap.size + 1, 2, none⟩ (.int .i64 (ee - (bh : Int))))) := Lib.hid (HB.out.setCell (p := ⟨w.heap.size + 1, 2, none⟩) (by show w.heap.size ≤ w.heap.size + 1; omega) _)
                  clear hsl hbx hpo HPS HN HDp
                  go_wp2_with fail
                  refine (rNear_any ng (some ⟨g, 0, none⟩) cap D2 (ee - (bh : Int)) _ HSl.out HDg.out (by omega) (by omega) (by omega)).mono ?_
                  rintro x w3 ⟨rfl, hb3⟩
                  have HRs3 : Hid (Lies w3 w.heap.size 36 #[.int .i64 0, .int .i64 0]) := Lib.hid ((hb3.block _ HRs.out.lt).trans HRs.out)
                  have HB3 : Hid (Below w.heap.size w w3) := Lib.hid (HB2.out.trans (hb3.mono HB2.out.size))
                  have r0 := HRs3.out.cell 0
                  have r1 := HRs3.out.cell 1
                  have s0 := HRs3.out.frozen 0
                  have s1 := HRs3.out.frozen 1
                  simp at r0 r1
                  clear hb3 q0 q1 g0 g1 x0 x1 x2 y2
                  cases hpn : pNear ng (natOf D2) (ee - (bh : Int)) with
                  | none =>
                    rw [hpn] at hN
                    unfold numOut
                    go_wp2_with fail
                    refine bodyPost_ret (v := .tuple #[.agg #[.int .i64 0, .int .i64 0], .bool false]) (by simp [results, Tryz.results57, go_sem, r0, r1]) rfl ?_
                    exact ⟨by rw [← HOut.out, hN.out]; rfl, (HB3.out.setCell (p := ⟨w.heap.size, 0, none⟩) (Nat.le_refl _) _).setCell (p := ⟨w.heap.size, 1, none⟩) (Nat.le_refl _) _⟩
                  | some q =>
                    obtain ⟨m, g⟩ := q
                    rw [hpn] at hN
                    unfold numOut
                    go_wp2_with fail
                    refine bodyPost_ret (v := .tuple #[.agg #[.int .i64 m, .int .i64 g], .bool true]) (by simp [results, Tryz.results57, go_sem, r0, r1]) rfl ?_
                    exact ⟨by rw [← HOut.out, hN.out]; rfl, (HB3.out.setCell (p := ⟨w.heap.size, 0, none⟩) (Nat.le_refl _) _).setCell (p := ⟨w.heap.size, 1, none⟩) (Nat.le_refl _) _⟩
end Go.Proofs.YteccjdclkcipbaaGreatDoor
