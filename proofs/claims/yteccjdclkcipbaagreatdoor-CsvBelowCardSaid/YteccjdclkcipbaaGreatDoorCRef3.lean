/-
  counterpaneref32.field, value, Same of equal arrays, Read.
-/
import Derived.Test.YteccjdclkcipbaaGreatDoorCsv14
import Derived.Test.YteccjdclkcipbaaGreatDoorCsv9
import Derived.Test.YteccjdclkcipbaaGreatDoorCsv17
import Derived.Test.YteccjdclkcipbaaGreatDoorCsv19
namespace Go.Proofs.YteccjdclkcipbaaGreatDoor
open Go.RowKit

theorem quote_take (b : Bs) (k : Nat) (hlt : k < b.length) : quoteB (b.take (k + 1)) = quoteB (b.take k) ++ if b[k] = 34 then [34, 34] else [b[k]] := by
  rw [List.take_succ_eq_append_getElem hlt, quoteB_app]
  simp only [quoteB]
theorem any_take (b : Bs) (k : Nat) (hlt : k < b.length) : (b.take (k + 1)).any isSep = ((b.take k).any isSep || isSep b[k]) := by
  rw [List.take_succ_eq_append_getElem hlt, List.any_append]
  simp
theorem uLen_any (b : Bs) : (decide (uLen b < b.length)) = b.any isSep := by
  rw [Bool.eq_iff_iff, decide_eq_true_iff, List.any_eq_true]
  constructor
  · intro h
    exact ⟨_, List.getElem_mem h, uLen_at b h⟩
  · rintro ⟨x, hx, hs⟩
    rcases Nat.lt_or_ge (uLen b) b.length with h | h
    · exact h
    · obtain ⟨k, hk, rfl⟩ := List.mem_iff_getElem.1 hx
      have := runP_lt (fun c => !isSep c) b k (by show k < uLen b; omega) hk
      simp [hs] at this
theorem cOut_any (b : Bs) : cOut b = if b.any isSep = true then 34 :: (quoteB b ++ [34]) else quoteB b := by
  unfold cOut
  have h := uLen_any b
  cases ha : b.any isSep
  · rw [ha] at h
    rw [if_neg (of_decide_eq_false h), if_neg (by decide), quoteB_no b (fun hm => by
      have : b.any isSep = true := List.any_eq_true.2 ⟨34, hm, by decide⟩
      rw [ha] at this
      cases this)]
  · rw [ha] at h
    rw [if_pos (of_decide_eq_true h), if_pos rfl]
set_option maxRecDepth 100000 in
set_option maxHeartbeats 6400000 in
theorem rfield32_any (t : Bs) (w : World) (hl : t.length ≤ 1000000) :
    Calls Tryz.prog 20 #[.string ⟨t.toArray⟩] w fun e w' => e = .returned (.string ⟨(cOut t).toArray⟩) ∧ Below w.heap.size w w' := by
  have hO := Lib.hid (cOut_any t)
  generalize cOut t = out at *
  have H0 := Lib.hid (Below.refl w.heap.size w)
  go_enter Tryz.func20, Tryz.ntmps20
  go_wp2_with fail
  go_loopw [3, 4, 5] (fun v3 v4 v5 wr => ∃ (k : Nat) (qq : Bool) (acc : Bs), v3 = .bool qq ∧ v4 = .string ⟨acc.toArray⟩ ∧ v5 = .int .i64 (k : Int) ∧ k ≤ t.length ∧ acc.length ≤ 2 * k ∧ Hid ((t.take k).any isSep = qq) ∧ Hid (quoteB (t.take k) = acc) ∧ Hid (Below w.heap.size w wr)) (fun _ _ v5 _ => t.length - (intOf v5).toNat)
  case atStart => exact ⟨0, false, [], rfl, rfl, rfl, Nat.zero_le _, by simp, Lib.hid rfl, Lib.hid rfl, H0⟩
  case round =>
    obtain ⟨k, qq, acc, rfl, rfl, rfl, hk, hal, hq, ha, hbel⟩ := hrel
    clear H0
    by_cases hlt : k < t.length
    · have e44 := at_beq t k 44 44 rfl hlt
      have e34 := at_beq t k 34 34 rfl hlt
      have e10 := at_beq t k 10 10 rfl hlt
      have e13 := at_beq t k 13 13 rfl hlt
      have HQ := Lib.hid (any_take t k hlt)
      have HA := Lib.hid (quote_take t k hlt)
      have hat : ∀ c, atIs t k c = (t[k] == c) := fun c => by unfold atIs; rw [List.getElem?_eq_getElem hlt, Bool.eq_iff_iff]; simp
      have hT1 : Hid (List.take 1 (List.drop k t) = [t[k]]) := Lib.hid (by rw [List.drop_eq_getElem_cons hlt]; rfl)
      have hS : Hid (isSep t[k] = (atIs t k 44 || atIs t k 34 || atIs t k 10 || atIs t k 13)) := Lib.hid (by rw [hat, hat, hat, hat]; rfl)
      have h34 : Hid ((if t[k] = 34 then [34, 34] else [t[k]] : Bs) = if atIs t k 34 = true then [34, 34] else [t[k]]) := Lib.hid (by rw [hat]; simp)
      have hlen : (acc.length : Int) ≤ 2000000 := by omega
      have hV : Hid (atIs t k 34 = true → t[k] = 34) := Lib.hid (fun h => by rw [hat] at h; simpa using h)
      clear hat
      generalize atIs t k 44 = b44 at *
      generalize atIs t k 34 = b34 at *
      generalize atIs t k 10 = b10 at *
      generalize atIs t k 13 = b13 at *
      have hA1 : Hid (quoteB (t.take (k + 1)) = acc ++ if b34 = true then [34, 34] else [t[k]]) := Lib.hid (by rw [HA.out, ha.out, h34.out])
      have hQ1 : Hid ((t.take (k + 1)).any isSep = (qq || (b44 || b34 || b10 || b13))) := Lib.hid (by rw [HQ.out, hq.out, hS.out])
      clear HQ HA hS h34 ha hq
      cases b34
      · cases b44
        · cases b10
          · cases b13
            · go_wp2_with fail
              go_roundw
              case rel => exact ⟨k + 1, _, _, rfl, rfl, by go_num, by omega, by simp; omega, Lib.hid (by rw [hQ1.out]; simp), Lib.hid (by rw [hA1.out, hT1.out]; rfl), hbel⟩
              case measure => simp [intOf]; omega
            · go_wp2_with fail
              go_roundw
              case rel => exact ⟨k + 1, _, _, rfl, rfl, by go_num, by omega, by simp; omega, Lib.hid (by rw [hQ1.out]; simp), Lib.hid (by rw [hA1.out, hT1.out]; rfl), hbel⟩
              case measure => simp [intOf]; omega
          · go_wp2_with fail
            go_roundw
            case rel => exact ⟨k + 1, _, _, rfl, rfl, by go_num, by omega, by simp; omega, Lib.hid (by rw [hQ1.out]; simp), Lib.hid (by rw [hA1.out, hT1.out]; rfl), hbel⟩
            case measure => simp [intOf]; omega
        · go_wp2_with fail
          go_roundw
          case rel => exact ⟨k + 1, _, _, rfl, rfl, by go_num, by omega, by simp; omega, Lib.hid (by rw [hQ1.out]; simp), Lib.hid (by rw [hA1.out, hT1.out]; rfl), hbel⟩
          case measure => simp [intOf]; omega
      · cases b44
        · go_wp2_with fail
          go_roundw
          case rel => exact ⟨k + 1, _, _, rfl, rfl, by go_num, by omega, by simp; omega, Lib.hid (by rw [hQ1.out]; simp), Lib.hid (by rw [hA1.out, hT1.out, hV.out rfl]; rfl), hbel⟩
          case measure => simp [intOf]; omega
        · go_wp2_with fail
          go_roundw
          case rel => exact ⟨k + 1, _, _, rfl, rfl, by go_num, by omega, by simp; omega, Lib.hid (by rw [hQ1.out]; simp), Lib.hid (by rw [hA1.out, hT1.out, hV.out rfl]; rfl), hbel⟩
          case measure => simp [intOf]; omega
    · obtain rfl : k = t.length := by omega
      rw [List.take_length] at hq ha
      rw [hq.out, ha.out] at hO
      clear hq ha
      cases qq
      · go_wp2_with fail
        go_ret
        exact ⟨by rw [hO.out]; rfl, hbel.out⟩
      · go_wp2_with fail
        go_ret
        exact ⟨by rw [hO.out]; simp, hbel.out⟩
def RV (out : Val × Bool) (w : World) (e : Ending) (w' : World) : Prop := ∃ x : Val, e = .returned (.tuple #[valV x, .bool out.2]) ∧ (out.2 = true → x = out.1) ∧ Below w.heap.size w w'
set_option maxRecDepth 100000 in
set_option maxHeartbeats 3200000 in
theorem rvalue_nil (w : World) : Calls Tryz.prog 26 #[.string ⟨#[]⟩] w (RV (vMeant []) w) := by
  have HB0 : Hid (Below w.heap.size w (w.alloc (.cells (valC ⟨0, 0, 0, [], false, 0⟩) 38))) := Lib.hid ((Below.refl _ w).alloc (Nat.le_refl _) _)
  go_enter Tryz.func26, Tryz.ntmps26
  go_wp2_with fail
  refine bodyPost_ret (v := .tuple #[.agg #[.int .i64 0, .int .i64 0, .int .i64 0, .string ⟨#[]⟩, .bool false, .int .i64 0], .bool true]) (by simp [results, Tryz.results26, go_sem]) rfl ?_
  exact ⟨⟨0, 0, 0, [], false, 0⟩, rfl, fun _ => rfl, HB0.out⟩
set_option maxRecDepth 100000 in
set_option maxHeartbeats 3200000 in
theorem rvalue_long (t : Bs) (w : World) (hl : t.length ≤ 1000000) (h255 : 255 < t.length) (e39 : ((t[0].toNat : Int) == 39) = false) (hne : t.isEmpty = false) (out : Val × Bool) (ho : out.2 = false) : Calls Tryz.prog 26 #[.string ⟨t.toArray⟩] w (RV out w) := by
  have HB0 : Hid (Below w.heap.size w (w.alloc (.cells (valC ⟨0, 0, 0, [], false, 0⟩) 38))) := Lib.hid ((Below.refl _ w).alloc (Nat.le_refl _) _)
  have HO := Lib.hid ho
  clear ho
  go_enter Tryz.func26, Tryz.ntmps26
  go_wp2_with fail
  refine bodyPost_ret (v := .tuple #[.agg #[.int .i64 0, .int .i64 0, .int .i64 0, .string ⟨#[]⟩, .bool false, .int .i64 0], .bool false]) (by simp [results, Tryz.results26, go_sem]) rfl ?_
  refine ⟨⟨0, 0, 0, [], false, 0⟩, by rw [HO.out], (fun h => by rw [HO.out] at h; cases h), ?_⟩
  exact HB0.out
set_option maxRecDepth 100000 in
set_option maxHeartbeats 3200000 in
theorem rvalue_text (t D : Bs) (w : World) (hl : t.length ≤ 1000000) (hp : 0 < t.length) (e39 : ((t[0].toNat : Int) == 39) = true) (hne : t.isEmpty = false) (hd : t.drop 1 = D) : Calls Tryz.prog 26 #[.string ⟨t.toArray⟩] w (RV (⟨2, 0, 0, D, false, 0⟩, decide ((t.length : Int) ≤ 256)) w) := by
  have htk : List.take (t.length - 1) D = D := by rw [← hd, List.take_of_length_le]; rw [List.length_drop]; omega
  go_enter Tryz.func26, Tryz.ntmps26
  go_wp2_with fail
  refine bodyPost_ret (v := .tuple #[.agg #[.int .i64 2, .int .i64 0, .int .i64 0, .string ⟨D.toArray⟩, .bool false, .int .i64 0], .bool (decide ((t.length : Int) ≤ 256))]) (by simp [results, Tryz.results26, go_sem]) rfl ?_
  refine ⟨⟨2, 0, 0, D, false, 0⟩, rfl, fun _ => rfl, ?_⟩
  exact (Below.refl _ w).alloc (Nat.le_refl _) _
set_option maxRecDepth 100000 in
set_option maxHeartbeats 3200000 in
theorem rvalue_read (t : Bs) (w : World) (hl : t.length ≤ 1000000) (hp : 0 < t.length) (h255 : t.length ≤ 255) (e39 : ((t[0].toNat : Int) == 39) = false) (hne : t.isEmpty = false) : Calls Tryz.prog 26 #[.string ⟨t.toArray⟩] w (RV (vRead t, true) w) := by
  have HB0 : Hid (Below w.heap.size w (w.alloc (.cells (valC ⟨0, 0, 0, [], false, 0⟩) 38))) := Lib.hid ((Below.refl _ w).alloc (Nat.le_refl _) _)
  have CR := Lib.hid (fun W => rread_any t W hl)
  generalize vRead t = x at *
  obtain ⟨k, m, e, tx, tr, f⟩ := x
  simp only [valV, valC] at CR
  go_enter Tryz.func26, Tryz.ntmps26
  go_wp2_with fail
  refine (CR.out _).mono ?_
  rintro z w1 ⟨rfl, hb⟩
  have HL := Lib.hid (Lies.next (Lies.new w 38 (valC ⟨0, 0, 0, [], false, 0⟩)) hb)
  have HB := Lib.hid (HB0.out.trans (hb.mono HB0.out.size))
  have RF := HL.out
  obtain ⟨r0, r1, r2, r3, r4, r5⟩ := (⟨RF.cell 0, RF.cell 1, RF.cell 2, RF.cell 3, RF.cell 4, RF.cell 5⟩ : _ ∧ _ ∧ _ ∧ _ ∧ _ ∧ _)
  simp only [valC, List.getElem?_toArray, List.getElem?_cons_zero, List.getElem?_cons_succ] at r0 r1 r2 r3 r4 r5
  have rf0 := RF.frozen 0
  have rf1 := RF.frozen 1
  have rf2 := RF.frozen 2
  have rf3 := RF.frozen 3
  have rf4 := RF.frozen 4
  have rf5 := RF.frozen 5
  clear RF hb CR
  go_wp2_with fail
  refine bodyPost_ret (v := .tuple #[.agg #[.int .i64 k, .int .i64 m, .int .i64 e, .string ⟨tx.toArray⟩, .bool tr, .int .i64 f], .bool true]) (by simp [results, Tryz.results26, go_sem, r0, r1, r2, r3, r4, r5]) rfl ?_
  refine ⟨⟨k, m, e, tx, tr, f⟩, rfl, fun _ => rfl, ?_⟩
  exact ((((((HB.out.setCell (p := ⟨_, _, none⟩) (Nat.le_refl _) _).setCell (p := ⟨_, _, none⟩) (Nat.le_refl _) _).setCell (p := ⟨_, _, none⟩) (Nat.le_refl _) _).setCell (p := ⟨_, _, none⟩) (Nat.le_refl _) _).setCell (p := ⟨_, _, none⟩) (Nat.le_refl _) _).setCell (p := ⟨_, _, none⟩) (Nat.le_refl _) _)
theorem rvalue32_any (t : Bs) (w : World) (hl : t.length ≤ 1000000) : Calls Tryz.prog 26 #[.string ⟨t.toArray⟩] w (RV (vMeant t) w) := by
  by_cases h0 : t = []
  · subst h0; exact rvalue_nil w
  · have h0l : 0 < t.length := List.length_pos_iff.2 h0
    have hne : t.isEmpty = false := by rw [List.isEmpty_eq_false_iff]; exact h0
    have e39 := at_beq t 0 39 39 rfl h0l
    unfold vMeant
    rw [if_neg h0]
    cases h39 : atIs t 0 39
    · rw [h39] at e39
      rw [if_neg (by decide)]
      by_cases h255 : 255 < t.length
      · exact rvalue_long t w hl h255 e39 hne _ (decide_eq_false (by omega))
      · rw [decide_eq_true (by omega)]
        exact rvalue_read t w hl h0l (by omega) e39 hne
    · rw [h39] at e39
      rw [if_pos rfl]
      have hd : decide ((t.drop 1).length ≤ 255) = decide ((t.length : Int) ≤ 256) := by rw [decide_eq_decide, List.length_drop]; omega
      rw [hd]
      exact rvalue_text t _ w hl h0l e39 hne rfl
theorem run_neq_same (v : Val) (w : World) : (binOp .neq 38 (valV v) (valV v)).run Tryz.prog w = .ok (.bool false) w := by
  have h := run_eql_value v v w
  rw [vSame_self] at h
  simp only [binOp] at h ⊢
  rw [Sem.run_bind] at h ⊢
  cases hx : Sem.run Tryz.prog (Op.equal 38 (valV v) (valV v)) w with
  | ok b w' =>
    rw [hx] at h
    simp at h ⊢
    exact h
  | halt x w' =>
    rw [hx] at h
    simp at h
set_option maxRecDepth 100000 in
set_option maxHeartbeats 6400000 in
theorem rsame32_true (r c : Int) (A B : Option Addr) (ca cb : Nat) (vs : List Val) (w : World) (hn : vs.length ≤ 1000000) (hA : VSl w A vs) (hB : VSl w B vs) :
    Calls Tryz.prog 12 #[.agg #[.int .i64 r, .int .i64 c, .slice A vs.length ca], .agg #[.int .i64 r, .int .i64 c, .slice B vs.length cb]] w fun e w' => e = .returned (.bool true) ∧ Below w.heap.size w w' := by
  obtain ⟨W2, hW2⟩ : ∃ W2, W2 = (w.alloc (.cells #[.int .i64 r, .int .i64 c, .slice A vs.length ca] 24)).alloc (.cells #[.int .i64 r, .int .i64 c, .slice B vs.length cb] 24) := ⟨_, rfl⟩
  have hb2 : Below w.heap.size w W2 := by rw [hW2]; exact ((Below.refl _ w).alloc (Nat.le_refl _) _).alloc (by rw [World.size_alloc]; omega) _
  have l1 : Lies W2 w.heap.size 24 #[.int .i64 r, .int .i64 c, .slice A vs.length ca] := by rw [hW2]; exact (Lies.new w _ _).alloc _
  have l2 : Lies W2 (w.heap.size + 1) 24 #[.int .i64 r, .int .i64 c, .slice B vs.length cb] := by
    rw [hW2]
    have h := Lies.new (w.alloc (.cells #[.int .i64 r, .int .i64 c, .slice A vs.length ca] 24)) 24 #[.int .i64 r, .int .i64 c, .slice B vs.length cb]
    rw [World.size_alloc] at h
    exact h
  have HB2 := Lib.hid hb2
  have L1 := Lib.hid l1
  have L2 := Lib.hid l2
  have HA := Lib.hid (hA.next hb2)
  have HBv := Lib.hid (hB.next hb2)
  have HW := Lib.hid hW2
  clear hA hB hb2 l1 l2 hW2
  go_enter Tryz.func12, Tryz.ntmps12
  go_wp2_with fail
  rw [← HW.out]
  go_loopw [5] (fun v wr => ∃ i : Nat, v = .int .i64 (i : Int) ∧ i ≤ vs.length ∧ Hid (Below W2.heap.size W2 wr)) (fun v _ => vs.length - (intOf v).toNat)
  case atStart => exact ⟨0, rfl, Nat.zero_le _, Lib.hid (Below.refl _ _)⟩
  case round =>
    obtain ⟨i, rfl, hi, hbr⟩ := hrel
    have x2 := (L1.out.next hbr.out).cell 2
    have z2 := (L2.out.next hbr.out).cell 2
    simp only [List.getElem?_toArray, List.getElem?_cons_zero, List.getElem?_cons_succ] at x2 z2
    by_cases hlt : i < vs.length
    · obtain ⟨ba, oa, rfl, hva⟩ := HA.out (by omega)
      obtain ⟨bb, ob, rfl, hvb⟩ := HBv.out (by omega)
      obtain ⟨y0, y1, y2, y3, y4, y5⟩ := (hva.next hbr.out).2 i hlt
      obtain ⟨q0, q1, q2, q3, q4, q5⟩ := (hvb.next hbr.out).2 i hlt
      have hN := run_neq_same vs[i]
      obtain ⟨v, hv⟩ : ∃ v, vs[i] = v := ⟨_, rfl⟩
      rw [hv] at y0 y1 y2 y3 y4 y5 q0 q1 q2 q3 q4 q5 hN
      obtain ⟨k, m, e, t, tr, f⟩ := v
      simp only [valV, valC] at hN
      dsimp only at y0 y1 y2 y3 y4 y5 q0 q1 q2 q3 q4 q5
      clear hv hva hvb
      go_wp2_with fail
      go_region
      go_wp2_with fail
      go_roundw
      case rel => exact ⟨i + 1, by go_num, by omega, Lib.hid hbr.out.drew⟩
      case measure => simp [intOf]; omega
    · obtain rfl : i = vs.length := by omega
      go_wp2_with fail
      go_ret
      exact ⟨rfl, HB2.out.trans (hbr.out.mono HB2.out.size)⟩
theorem fillR_len (rs : List (List Bs)) (C i k : Nat) (hi : i ≤ rs.length) (hc : ∀ l ∈ rs, l.length ≤ C) : (fillR rs C i k).length = i * C + k := by
  unfold fillR
  rw [List.length_append, padAll_len C _ (fun l hl => by
    obtain ⟨x, hx, rfl⟩ := List.mem_map.1 hl
    unfold mV
    rw [List.length_map]
    exact hc x (List.mem_of_mem_take hx)), List.length_map, List.length_take, Nat.min_eq_left hi]
  simp
theorem stopL {P : Program} {ops : Array Oper} {Q : Exit → Act → World → Prop} {l : List Oper} {a : Act} {w : World} (h : Hid (wpList P ops Q l a w)) : wpList P ops Q l a w := h.out
theorem gset {A B : World} {k : Nat} (h : A.grownBy B (some k)) (i : Nat) (v : Value) : A.grownBy (B.setCell ⟨k, i, none⟩ v) (some k) :=
  ⟨h.os, h.tape, h.output, by rw [World.size_setCell]; exact h.size, fun j hj hne => (heap_setCell_other B ⟨k, i, none⟩ j v (fun e => hne (by rw [e]))).trans (h.block j hj hne)⟩
theorem rread32_nil (w : World) : Calls Tryz.prog 13 #[.string ⟨#[]⟩] w (ReadPost (cRead []) w) := by
  have HB0 : Hid (Below w.heap.size w (w.alloc (.cells #[.int .i64 0, .int .i64 0, .slice none 0 0] 24))) := Lib.hid ((Below.refl _ w).alloc (Nat.le_refl _) _)
  go_enter Tryz.func13, Tryz.ntmps13
  go_wp2_with fail
  refine bodyPost_ret (v := .tuple #[.agg #[.int .i64 0, .int .i64 0, .slice none 0 0], .int .i64 1, .int .i64 13]) (by simp [results, Tryz.results13, go_sem]) rfl ?_
  exact ⟨none, 0, rfl, fun h => absurd h (Nat.lt_irrefl 0), HB0.out⟩
set_option maxRecDepth 100000 in
set_option maxHeartbeats 6400000 in
theorem rread32_any (s : Bs) (w : World) (hl : s.length ≤ 2000) :
    Calls Tryz.prog 13 #[.string ⟨s.toArray⟩] w (ReadPost (cRead s) w) := by
  by_cases hs : s = []
  · subst hs
    exact rread32_nil w
  have hne : s.isEmpty = false := by rw [List.isEmpty_eq_false_iff]; exact hs
  have CR := Lib.hid (fun W => rrows32_any s W (by omega))
  have HZero := Lib.hid (RGood.zero s)
  have HStep := Lib.hid (fun i h (g : RGood s i) => g.step h)
  have HNext := Lib.hid (fun i h (g : RGood s i) => g.next h)
  have HDone := Lib.hid (fun (g : RGood s _) => g.done)
  have HSome := Lib.hid (fun l (h : l ∈ (cRows s []).1) => cRows_some h)
  have HNon := Lib.hid (cRows_nonempty hs)
  have hrl : (cRows s []).1.length ≤ 2000 := by have := cRows_len s.length s [] (Nat.le_refl _); simp at this; omega
  generalize hR1 : (cRows s []) = R at *
  obtain ⟨rows, ee⟩ := R
  dsimp only at HStep HNext HDone HSome HNon hrl
  clear hR1
  go_enter Tryz.func13, Tryz.ntmps13
  go_wp2_with fail
  refine (CR.out _).mono ?_
  rintro e w2 ⟨v, rfl, hrows, hb⟩
  obtain ⟨vs, hvl, hvo, hvr⟩ := hrows
  dsimp only at hvl hvo hvr
  obtain ⟨A, cap, rfl⟩ := own_slice hvo
  have LQ := Lib.hid (Lies.next (Lies.new w 24 #[.int .i64 0, .int .i64 0, .slice none 0 0]) hb)
  have HB2 := Lib.hid (((Below.refl w.heap.size w).alloc (Nat.le_refl _) (.cells #[.int .i64 0, .int .i64 0, .slice none 0 0] 24)).trans (hb.mono (by rw [World.size_alloc]; omega)))
  have HVl := Lib.hid hvl
  have HVo := Lib.hid hvo
  have HVr := Lib.hid hvr
  have hqs : w.heap.size < w2.heap.size := LQ.out.lt
  clear hb hvl hvo hvr CR
  go_wp2_with fail
  go_loopw [7, 8] (fun v7 v8 wr => ∃ i : Nat, v7 = .int .i64 (colsOf rows i : Int) ∧ v8 = .int .i64 (i : Int) ∧ i ≤ rows.length ∧ colsOf rows i ≤ 2000 ∧ Hid (RGood s i) ∧ Hid (∀ l ∈ rows.take i, l.all (fun w => (vMeant w).2) = true) ∧ Hid (Below w2.heap.size w2 wr)) (fun _ v8 _ => rows.length - (intOf v8).toNat)
  case atStart => exact ⟨0, rfl, rfl, Nat.zero_le _, Nat.zero_le _, HZero, Lib.hid (fun l h => by simp at h), Lib.hid (Below.refl _ _)⟩
  case round =>
    obtain ⟨i, rfl, rfl, hi, hcl, hg, hal, hbr⟩ := hrel
    clear HZero
    by_cases hlt : i < rows.length
    · obtain ⟨gA, rfl⟩ : ∃ gA, A = some ⟨gA, 0, none⟩ := by
        obtain ⟨g, c, e⟩ := own_form HVo.out (by omega)
        injection e with e
        exact ⟨g, e⟩
      have HSt := Lib.hid (HStep.out i hlt hg.out)
      have HNx := Lib.hid (HNext.out i hlt hg.out)
      have hsm := HSome.out rows[i] (List.getElem_mem hlt)
      have hcs := colsOf_succ rows i hlt
      have hvl2 : i < vs.length := by rw [HVl.out]; exact hlt
      have hor := HVr.out i vs[i] rows[i] (List.getElem?_eq_getElem hvl2) (List.getElem?_eq_getElem hlt)
      obtain ⟨row, hrow⟩ : ∃ row, rows[i] = row := ⟨_, rfl⟩
      rw [hrow] at HSt HNx hsm hcs hor
      have HRow := Lib.hid hrow
      obtain ⟨hs1, hs2, hs3⟩ := hsm
      have hn0 : 0 < row.length := List.length_pos_iff.2 hs1
      obtain ⟨gr, cr, hve⟩ := own_form hor hn0
      rw [hve] at hor
      have HOr := Lib.hid hor
      have hlr : row.length ≤ 2000 := Nat.le_trans hs2 hl
      have HW := Lib.hid (fun y (h : y ∈ row) => Nat.le_trans (hs3 y h) hl)
      have HA2 : Hid (w2.cell? ⟨gA, i, none⟩ = some (.slice (some ⟨gr, 0, none⟩) row.length cr)) := Lib.hid (by rw [HVo.out.cellAt i (by omega), List.getElem?_eq_getElem hvl2, hve])
      have hgA : gA < w2.heap.size := (HVo.out.lt gA rfl).2
      obtain ⟨M, hM⟩ : ∃ M, colsOf rows (i + 1) = M := ⟨_, rfl⟩
      rw [hM] at HSt HNx hcs
      have hMz : max (colsOf rows i : Int) (row.length : Int) = (M : Int) := by omega
      have hMl : M ≤ 2000 := by omega
      have HM := Lib.hid hM
      have ya : wr.cell? ⟨gA, i, none⟩ = some (.slice (some ⟨gr, 0, none⟩) row.length cr) := (hbr.out.cell (p := ⟨gA, i, none⟩) hgA).trans HA2.out
      have hall0 : Hid ((row.take 0).all (fun w => (vMeant w).2) = true) := Lib.hid (by simp)
      clear hs1 hs2 hs3 hor hve hvl2 hcs hM hrow
      go_wp2_with fail
      go_loopw [9] (fun v9 wx => ∃ k : Nat, v9 = .int .i64 (k : Int) ∧ k ≤ row.length ∧ Hid ((row.take k).all (fun w => (vMeant w).2) = true) ∧ Hid (Below w2.heap.size w2 wx)) (fun v9 _ => row.length - (intOf v9).toNat)
      case atStart => exact ⟨0, rfl, Nat.zero_le _, hall0, hbr⟩
      case round =>
        obtain ⟨k, rfl, hk, hall, hbx⟩ := hrel
        clear ya hall0
        have ya : wr.cell? ⟨gA, i, none⟩ = some (.slice (some ⟨gr, 0, none⟩) row.length cr) := (hbx.out.cell (p := ⟨gA, i, none⟩) hgA).trans HA2.out
        have LX := Lib.hid (LQ.out.next hbx.out)
        have q0 := LX.out.cell 0
        have q1 := LX.out.cell 1
        have q2 := LX.out.cell 2
        have f0 := LX.out.frozen 0
        have f1 := LX.out.frozen 1
        have f2 := LX.out.frozen 2
        simp only [List.getElem?_toArray, List.getElem?_cons_zero, List.getElem?_cons_succ] at q0 q1 q2
        by_cases hkt : k < row.length
        · have yk : wr.cell? ⟨gr, k, none⟩ = some (.string ⟨(row[k]).toArray⟩) := by
            rw [(own_next hbx.out HOr.out).cellAt k (by omega), List.getElem?_map, List.getElem?_eq_getElem hkt]
            rfl
          have CV := Lib.hid (fun W => rvalue32_any row[k] W (by have := HW.out row[k] (List.getElem_mem hkt); omega))
          obtain ⟨out, hout⟩ : ∃ out, vMeant row[k] = out := ⟨_, rfl⟩
          rw [hout] at CV
          have HOut := Lib.hid hout
          obtain ⟨xo, b⟩ := out
          clear hout q0 q1 q2 f0 f1 f2
          go_wp2_with fail
          refine (CV.out _).mono ?_
          rintro e w3 ⟨⟨xk, xm, xe, xt, xtr, xf⟩, rfl, -, hb3⟩
          have HB3 := Lib.hid (hbx.out.trans (hb3.mono hbx.out.size))
          have LX3 := Lib.hid ((LX.out.next hb3).alloc (.cells #[.int .i64 xk, .int .i64 xm, .int .i64 xe, .string ⟨xt.toArray⟩, .bool xtr, .int .i64 xf] 38))
          have HB4 := Lib.hid (HB3.out.alloc HB3.out.size (.cells #[.int .i64 xk, .int .i64 xm, .int .i64 xe, .string ⟨xt.toArray⟩, .bool xtr, .int .i64 xf] 38))
          have q0 := LX3.out.cell 0
          have q1 := LX3.out.cell 1
          have q2 := LX3.out.cell 2
          have f0 := LX3.out.frozen 0
          have f1 := LX3.out.frozen 1
          have f2 := LX3.out.frozen 2
          simp only [List.getElem?_toArray, List.getElem?_cons_zero, List.getElem?_cons_succ] at q0 q1 q2
          clear hb3 CV ya yk
          dsimp only [valV, valC]
          cases b
          · have hc : Hid (cRead s = ((0, 0, []), i + 1, 14)) := Lib.hid (by
              rw [HSt.out, if_pos]
              rw [Bool.eq_false_iff]
              intro h
              have := List.all_eq_true.1 h row[k] (List.getElem_mem hkt)
              rw [HOut.out] at this
              cases this)
            have hqw : w.heap.size ≤ w.heap.size := Nat.le_refl _
            have HB5 := Lib.hid (HB2.out.trans (HB4.out.mono HB2.out.size))
            go_wp2_with fail
            refine bodyPost_ret (v := .tuple #[.agg #[.int .i64 0, .int .i64 0, .slice none 0 0], .int .i64 ((i : Int) + 1), .int .i64 14]) (by simp [results, Tryz.results13, go_sem, q0, q1, q2]) rfl ?_
            refine ⟨none, 0, by rw [hc.out]; rfl, by rw [hc.out]; exact fun h => absurd h (Nat.lt_irrefl 0), ?_⟩
            exact ((HB5.out.setCell (p := ⟨_, _, none⟩) (Nat.le_refl _) _).setCell (p := ⟨_, _, none⟩) (Nat.le_refl _) _).setCell (p := ⟨_, _, none⟩) (Nat.le_refl _) _
          · have hall2 : Hid ((row.take (k + 1)).all (fun w => (vMeant w).2) = true) := Lib.hid (by
              rw [List.take_succ_eq_append_getElem hkt, List.all_append, hall.out, Bool.true_and]
              simp [HOut.out])
            clear q0 q1 q2 f0 f1 f2
            go_wp2_with fail
            exact ⟨⟨k + 1, by simp, by omega, hall2, HB4⟩, by simp [intOf]; omega⟩
        · obtain rfl : k = row.length := by omega
          rw [List.take_length] at hall
          obtain ⟨P, hP⟩ : ∃ P : Nat, (i + 1) * M = P := ⟨_, rfl⟩
          have hPz : ((i : Int) + 1) * (M : Int) = (P : Int) := by rw [← hP]; simp
          have hPl : P ≤ 10000000 := by
            have := Nat.mul_le_mul (show i + 1 ≤ 2001 by omega) hMl
            omega
          rw [hP] at HSt
          have hPM := Lib.hid hP
          have HB5 := Lib.hid (HB2.out.trans (hbx.out.mono HB2.out.size))
          clear hP
          by_cases hP4 : 4096 < P
          · have hc : Hid (cRead s = ((0, 0, []), i + 1, 5)) := Lib.hid (by
              rw [HSt.out, if_neg (by rw [hall.out]; decide), if_pos hP4])
            go_wp2_with fail
            refine bodyPost_ret (v := .tuple #[.agg #[.int .i64 0, .int .i64 0, .slice none 0 0], .int .i64 ((i : Int) + 1), .int .i64 5]) (by simp [results, Tryz.results13, go_sem, q0, q1, q2]) rfl ?_
            refine ⟨none, 0, by rw [hc.out]; rfl, by rw [hc.out]; exact fun h => absurd h (Nat.lt_irrefl 0), ?_⟩
            exact ((HB5.out.setCell (p := ⟨_, _, none⟩) (Nat.le_refl _) _).setCell (p := ⟨_, _, none⟩) (Nat.le_refl _) _).setCell (p := ⟨_, _, none⟩) (Nat.le_refl _) _
          · have hg2 := Lib.hid (HNx.out hall.out (by rw [hPM.out]; omega))
            have hal2 : Hid (∀ l ∈ rows.take (i + 1), l.all (fun w => (vMeant w).2) = true) := Lib.hid (fun l hm => by
              rw [List.take_succ_eq_append_getElem hlt] at hm
              rcases List.mem_append.1 hm with hm | hm
              · exact hal.out l hm
              · rw [List.mem_singleton] at hm
                rw [hm, HRow.out]
                exact hall.out)
            clear q0 q1 q2 f0 f1 f2
            go_wp2_with fail
            go_roundw
            case rel => exact ⟨i + 1, by rw [HM.out], by go_num, by omega, by rw [HM.out]; exact hMl, hg2, hal2, hbx⟩
            case measure => simp [intOf]; omega
    · obtain rfl : i = rows.length := by omega
      rw [List.take_length] at hal
      have HD := Lib.hid (HDone.out hg.out)
      have LX := Lib.hid (LQ.out.next hbr.out)
      have HB5 := Lib.hid (HB2.out.trans (hbr.out.mono HB2.out.size))
      have q0 := LX.out.cell 0
      have q1 := LX.out.cell 1
      have q2 := LX.out.cell 2
      have f0 := LX.out.frozen 0
      have f1 := LX.out.frozen 1
      have f2 := LX.out.frozen 2
      simp only [List.getElem?_toArray, List.getElem?_cons_zero, List.getElem?_cons_succ] at q0 q1 q2
      by_cases he : ee = 0
      · subst he
        clear q0 q1 q2 f0 f1 f2
        have hnon := HNon.out rfl
        have hr0 : 0 < rows.length := List.length_pos_iff.2 hnon
        have hfin : Hid (cRead s = ((rows.length, colsOf rows rows.length, padAll (rows.map mV) (colsOf rows rows.length)), 0, 0)) := Lib.hid (by
          rw [HD.out, if_neg (by simp), if_neg hnon])
        have hcle := Lib.hid (fun l (h : l ∈ rows) => colsOf_le rows rows.length (Nat.le_refl _) l (by rw [List.take_length]; exact h))
        have hPP : rows.length * colsOf rows rows.length ≤ 4096 := by
          have h1 := ((cRead_ok s).1 (by rw [hfin.out])).2.1
          rw [hfin.out] at h1
          obtain ⟨f1, -, -⟩ := aRight_yes h1
          obtain ⟨R, C, e1, e2, -, -, -, -, h5⟩ := fits_nat f1
          dsimp only at e1 e2
          have e3 : rows.length = R := by exact_mod_cast e1
          have e4 : colsOf rows rows.length = C := by exact_mod_cast e2
          rw [e3] at e4 ⊢
          rw [e4]
          exact h5
        generalize colsOf rows rows.length = C at *
        obtain ⟨gA, rfl⟩ : ∃ gA, A = some ⟨gA, 0, none⟩ := by
          obtain ⟨g, c, e⟩ := own_form HVo.out (by omega)
          injection e with e
          exact ⟨g, e⟩
        have hC2 : C ≤ 4096 := Nat.le_trans (Nat.le_mul_of_pos_left C hr0) hPP
        have HAl := Lib.hid hal.out
        obtain ⟨i1, gi, gz0, gz1, gz2⟩ := info_parts infoVal
        have LB : Hid (Lies (wr.alloc (.cells #[.int .i64 (rows.length : Int), .int .i64 (C : Int), .slice none 0 0] 24)) wr.heap.size 24 #[.int .i64 (rows.length : Int), .int .i64 (C : Int), .slice none 0 0]) := Lib.hid (Lies.new wr _ _)
        have HBz : Hid (Below wr.heap.size wr (wr.alloc (.cells #[.int .i64 (rows.length : Int), .int .i64 (C : Int), .slice none 0 0] 24))) := Lib.hid ((Below.refl _ _).alloc (Nat.le_refl _) _)
        have HO0 : Hid (VOwn (wr.alloc (.cells #[.int .i64 (rows.length : Int), .int .i64 (C : Int), .slice none 0 0] 24)) (wr.heap.size + 1) (.slice none 0 0) (fillR rows C 0 0)) := Lib.hid (by rw [fillR_zero]; exact World.ownsRow_nil _ _ _ _)
        generalize wr = wz at *
        generalize hqa : wz.heap.size = qa at *
        have HBr := Lib.hid hbr.out
        have hsz2 : w2.heap.size ≤ qa := by rw [← hqa]; exact hbr.out.size
        clear hg HD hbr
        go_wp2_with fail
        go_loopw [13] (fun v13 wx => ∃ (i : Nat) (v : Value), v13 = .int .i64 (i : Int) ∧ i ≤ rows.length ∧ Hid (Below qa wz wx) ∧ Hid (Lies wx qa 24 #[.int .i64 (rows.length : Int), .int .i64 (C : Int), v]) ∧ Hid (VOwn wx (qa + 1) v (fillR rows C i 0))) (fun v13 _ => rows.length - (intOf v13).toNat)
        case atStart => exact ⟨0, _, rfl, Nat.zero_le _, HBz, LB, HO0⟩
        case round =>
          obtain ⟨i, v, rfl, hi, hbx, hlb, hvo⟩ := hrel
          clear HBz LB HO0
          by_cases hlt : i < rows.length
          · have hvl2 : i < vs.length := by rw [HVl.out]; exact hlt
            have hor := HVr.out i vs[i] rows[i] (List.getElem?_eq_getElem hvl2) (List.getElem?_eq_getElem hlt)
            have hsm := HSome.out rows[i] (List.getElem_mem hlt)
            have hao := HAl.out rows[i] (List.getElem_mem hlt)
            have hro := Lib.hid (fillR_row rows C i hlt hcle.out)
            have hgd : rows.getD i [] = rows[i] := by simp [List.getD, List.getElem?_eq_getElem hlt]
            have hrc := hcle.out rows[i] (List.getElem_mem hlt)
            obtain ⟨row, hrow⟩ : ∃ row, rows[i] = row := ⟨_, rfl⟩
            rw [hrow] at hsm hor hao hgd hrc
            obtain ⟨hs1, hs2, hs3⟩ := hsm
            obtain ⟨gr, cr, hve⟩ := own_form hor (List.length_pos_iff.2 hs1)
            rw [hve] at hor
            have HOr := Lib.hid hor
            have HW := Lib.hid (fun y (h : y ∈ row) => Nat.le_trans (hs3 y h) hl)
            have HA2 : Hid (w2.cell? ⟨gA, i, none⟩ = some (.slice (some ⟨gr, 0, none⟩) row.length cr)) := Lib.hid (by rw [HVo.out.cellAt i (by omega), List.getElem?_eq_getElem hvl2, hve])
            have hgA : gA < w2.heap.size := (HVo.out.lt gA rfl).2
            have HAo := Lib.hid hao
            have HGd := Lib.hid hgd
            clear hs1 hs2 hs3 hor hve hvl2 hao hgd hrow
            go_wp2_with fail
            go_loopw [14] (fun v14 wy => ∃ (k : Nat) (v : Value), v14 = .int .i64 (k : Int) ∧ k ≤ C ∧ Hid (Below qa wz wy) ∧ Hid (Lies wy qa 24 #[.int .i64 (rows.length : Int), .int .i64 (C : Int), v]) ∧ Hid (VOwn wy (qa + 1) v (fillR rows C i k))) (fun v14 _ => C - (intOf v14).toNat)
            case atStart => exact ⟨0, v, rfl, Nat.zero_le _, hbx, hlb, hvo⟩
            case round =>
              clear hbx hlb hvo
              obtain ⟨k, v, rfl, hk, hby, hlb, hvo⟩ := hrel
              by_cases hkt : k < C
              · have hfl := fillR_len rows C i k (by omega) hcle.out
                have hfl2 := Nat.mul_le_mul_right C hlt
                rw [Nat.succ_mul] at hfl2
                have hfl4 : (fillR rows C i k).length < 4096 := by omega
                clear hfl hfl2
                have LV0 : Hid (Lies (wr.alloc (.cells #[.int .i64 0, .int .i64 0, .int .i64 0, .string ⟨#[]⟩, .bool false, .int .i64 0] 38)) wr.heap.size 38 (valC ⟨0, 0, 0, [], false, 0⟩)) := Lib.hid (Lies.new wr _ _)
                have hqw : qa < wr.heap.size := hlb.out.lt
                have hbA : Below wr.heap.size wr (wr.alloc (.cells #[.int .i64 0, .int .i64 0, .int .i64 0, .string ⟨#[]⟩, .bool false, .int .i64 0] 38)) := (Below.refl _ _).alloc (Nat.le_refl _) _
                have hbyA := Lib.hid (hby.out.trans (hbA.mono (by omega)))
                have hlbA := Lib.hid (hlb.out.next hbA)
                have hvoA := Lib.hid (own_next hbA hvo.out)
                have hnb : Hid (v.ownBlock = none ∨ v.ownBlock ≠ some wr.heap.size) := Lib.hid (by
                  cases hvb : v.ownBlock with
                  | none => exact .inl rfl
                  | some g => exact .inr (fun e => by have := (hvo.out.lt g hvb).2; injection e with e; omega))
                have hFC := Lib.hid (fillR_cell rows C i k)
                rw [HGd.out] at hFC
                go_upto_region 27 with fail
                generalize wr.alloc (.cells #[.int .i64 0, .int .i64 0, .int .i64 0, .string ⟨#[]⟩, .bool false, .int .i64 0] 38) = WA at *
                generalize hbx : wr.heap.size = bx at *
                have hb2A := Lib.hid (HBr.out.trans (hbyA.out.mono hsz2))
                have ya : WA.cell? ⟨gA, i, none⟩ = some (.slice (some ⟨gr, 0, none⟩) row.length cr) := (hb2A.out.cell (p := ⟨gA, i, none⟩) hgA).trans HA2.out
                go_upto_if 99 with fail
                go_cut [15] from 118 (fun v15 wy => v15 = .pointer (some ⟨bx, 0, none⟩) ∧ Hid (Lies wy bx 38 (valC (padW row k))) ∧ Hid (Below qa wz wy) ∧ Hid (Lies wy qa 24 #[.int .i64 (rows.length : Int), .int .i64 (C : Int), v]) ∧ Hid (VOwn wy (qa + 1) v (fillR rows C i k)))
                case first =>
                  by_cases hkr : k < row.length
                  · have yk : WA.cell? ⟨gr, k, none⟩ = some (.string ⟨(row[k]).toArray⟩) := by
                      rw [(own_next hb2A.out HOr.out).cellAt k (by omega), List.getElem?_map, List.getElem?_eq_getElem hkr]
                      rfl
                    have CV := Lib.hid (fun W => rvalue32_any row[k] W (by have := HW.out row[k] (List.getElem_mem hkr); omega))
                    have hok := Lib.hid (List.all_eq_true.1 HAo.out row[k] (List.getElem_mem hkr))
                    have hpw : Hid (padW row k = (vMeant row[k]).1) := Lib.hid (by unfold padW; rw [dif_pos hkr])
                    generalize vMeant row[k] = out at CV hok hpw
                    go_wp2_with fail
                    refine (CV.out _).mono ?_
                    rintro e w3 ⟨x, rfl, hx, hb3⟩
                    have hxo := hx hok.out
                    subst hxo
                    have L3 := Lib.hid (LV0.out.next hb3)
                    have HB3 := Lib.hid (hbyA.out.trans (hb3.mono (by have := hbyA.out.size; omega)))
                    have HL3 := Lib.hid (hlbA.out.next hb3)
                    have HV3 := Lib.hid (own_next hb3 hvoA.out)
                    have hbq : bx ≠ qa := by omega
                    obtain ⟨r0, r1, r2, r3, r4, r5⟩ := (⟨L3.out.cell 0, L3.out.cell 1, L3.out.cell 2, L3.out.cell 3, L3.out.cell 4, L3.out.cell 5⟩ : _ ∧ _ ∧ _ ∧ _ ∧ _ ∧ _)
                    simp only [valC, List.getElem?_toArray, List.getElem?_cons_zero, List.getElem?_cons_succ] at r0 r1 r2 r3 r4 r5
                    have rf0 := L3.out.frozen 0
                    have rf1 := L3.out.frozen 1
                    have rf2 := L3.out.frozen 2
                    have rf3 := L3.out.frozen 3
                    have rf4 := L3.out.frozen 4
                    have rf5 := L3.out.frozen 5
                    clear CV hb3 ya yk hx
                    obtain ⟨⟨xk, xm, xe, xt, xtr, xf⟩, xb⟩ := out
                    dsimp only at hok hpw
                    dsimp only [valV, valC]
                    go_wp2_with fail
                    go_meet
                    have hg6 : w3.grownBy ((((((w3.setCell ⟨bx, 0, none⟩ (.int .i64 xk)).setCell ⟨bx, 1, none⟩ (.int .i64 xm)).setCell ⟨bx, 2, none⟩ (.int .i64 xe)).setCell ⟨bx, 3, none⟩ (.string ⟨xt.toArray⟩)).setCell ⟨bx, 4, none⟩ (.bool xtr)).setCell ⟨bx, 5, none⟩ (.int .i64 xf)) (some bx) :=
                      gset (gset (gset (gset (gset (gset ⟨rfl, rfl, rfl, Nat.le_refl _, fun _ _ _ => rfl⟩ 0 _) 1 _) 2 _) 3 _) 4 _) 5 _
                    refine ⟨rfl, Lib.hid ?_, Lib.hid ?_, Lib.hid ?_, Lib.hid ?_⟩
                    · rw [hpw.out]
                      exact (((((L3.out.put 0 (.int .i64 xk)).put 1 (.int .i64 xm)).put 2 (.int .i64 xe)).put 3 (.string ⟨xt.toArray⟩)).put 4 (.bool xtr)).put 5 (.int .i64 xf)
                    · exact HB3.out.grown hg6 (by have := HB3.out.size; omega) (fun r e => by cases e; omega)
                    · exact HL3.out.grown hg6 (fun e => by cases e; omega)
                    · exact HV3.out.kept hg6 hnb.out
                  · have hpw : Hid (padW row k = ⟨0, 0, 0, [], false, 0⟩) := Lib.hid (by unfold padW; rw [dif_neg hkr])
                    go_wp2_with fail
                    go_meet
                    exact ⟨rfl, Lib.hid (by rw [hpw.out]; exact LV0.out), hbyA, hlbA, hvoA⟩
                case rest =>
                  obtain ⟨rfl, hLV, hbW, hLB, hVO⟩ := hcut
                  obtain ⟨An, cn, rfl⟩ := own_slice hVO.out
                  generalize padW row k = x at hLV hFC
                  obtain ⟨xk, xm, xe, xt, xtr, xf⟩ := x
                  obtain ⟨r0, r1, r2, r3, r4, r5⟩ := (⟨hLV.out.cell 0, hLV.out.cell 1, hLV.out.cell 2, hLV.out.cell 3, hLV.out.cell 4, hLV.out.cell 5⟩ : _ ∧ _ ∧ _ ∧ _ ∧ _ ∧ _)
                  simp only [valC, List.getElem?_toArray, List.getElem?_cons_zero, List.getElem?_cons_succ] at r0 r1 r2 r3 r4 r5
                  have b2 := hLB.out.cell 2
                  simp only [List.getElem?_toArray, List.getElem?_cons_zero, List.getElem?_cons_succ] at b2
                  have hqc : qa < wc.heap.size := hLB.out.lt
                  clear LV0 hbA hbyA hlbA hvoA hnb ya hb2A
                  go_wp2_with (at_builtin; refine wpList_append_own _ rfl _ _ 22 rfl (qa + 1) 38 i1 (.agg (valC ⟨0, 0, 0, [], false, 0⟩)) 6 56 Tryz.underlying22 gi gz0 gz1 gz2 rfl (by decide) _ _ _ rfl (World.ownsRow.alloc hVO.out _) ⟨wc.heap.size, 0, none⟩ 1 1 [.int .i64 xk, .int .i64 xm, .int .i64 xe, .string ⟨xt.toArray⟩, .bool xtr, .int .i64 xf] rfl rfl ?c1 ?c2 ?c3 ?c4 ?c5 ?_)
                  try
                    case c1 =>
                      intro j u hj
                      match j, hj with
                      | 0, hj => simp at hj; subst hj; simp [Addr.add]
                      | 1, hj => simp at hj; subst hj; simp [Addr.add]
                      | 2, hj => simp at hj; subst hj; simp [Addr.add]
                      | 3, hj => simp at hj; subst hj; simp [Addr.add]
                      | 4, hj => simp at hj; subst hj; simp [Addr.add]
                      | 5, hj => simp at hj; subst hj; simp [Addr.add]
                      | j + 6, hj => simp at hj
                  try
                    case c2 =>
                      intro u hu
                      simp at hu
                      rcases hu with rfl | rfl | rfl | rfl | rfl | rfl <;> rfl
                  case c3 => unfold maxLen; omega
                  case c4 => omega
                  case c5 => rw [World.size_alloc]; omega
                  intro v' W2 hown' hgrow _
                  have hsz : qa ≤ wc.heap.size := by omega
                  have LB2 : Hid (Lies W2 qa 24 #[.int .i64 (rows.length : Int), .int .i64 (C : Int), .slice An (fillR rows C i k).length cn]) := Lib.hid ((hLB.out.alloc _).grown hgrow (fun e => by have := ((World.ownsRow.alloc hVO.out (.cells #[.int .i64 xk, .int .i64 xm, .int .i64 xe, .string ⟨xt.toArray⟩, .bool xtr, .int .i64 xf] 38)).lt _ e.symm).1; omega))
                  have BW2 : Hid (Below qa wz W2) := Lib.hid ((hbW.out.alloc (by omega) _).grown hgrow (by rw [World.size_alloc]; omega) (fun r e => by have := ((World.ownsRow.alloc hVO.out (.cells #[.int .i64 xk, .int .i64 xm, .int .i64 xe, .string ⟨xt.toArray⟩, .bool xtr, .int .i64 xf] 38)).lt _ e).1; omega))
                  have HV2 : Hid (VOwn W2 (qa + 1) v' (fillR rows C i (k + 1))) := Lib.hid (by
                    rw [hFC.out]
                    unfold VOwn
                    rw [vcells_app, List.length_append]
                    exact hown')
                  obtain ⟨A', c', rfl⟩ := own_slice hown'
                  have b2' := LB2.out.cell 2
                  have fb2 := LB2.out.frozen 2
                  simp only [List.getElem?_toArray, List.getElem?_cons_zero, List.getElem?_cons_succ] at b2'
                  clear hown' hgrow hLV hbW hLB hVO r0 r1 r2 r3 r4 r5 b2 hqc
                  go_wp2_with fail
                  go_roundw
                  case rel => exact ⟨k + 1, _, by go_num, by omega, Lib.hid (below_set BW2.out (Nat.le_refl _) 2 _), Lib.hid (LB2.out.put 2 _), Lib.hid (ownsRow_setCell_below HV2.out (a := ⟨qa, 2, none⟩) (by dsimp only; omega) _)⟩
                  case measure => simp [intOf]; omega
              · obtain rfl : k = C := by omega
                rw [hro.out] at hvo
                go_wp2_with fail
                go_roundw
                case rel => exact ⟨i + 1, v, by go_num, by omega, hby, hlb, hvo⟩
                case measure => simp [intOf]; omega
          · obtain rfl : i = rows.length := by omega
            rw [fillR_all] at hvo
            obtain ⟨An, cn, rfl⟩ := own_slice hvo.out
            have HBQ := Lib.hid (HB2.out.trans ((HBr.out.trans (hbx.out.mono hsz2)).mono HB2.out.size))
            have LX9 := Lib.hid (LQ.out.next (HBr.out.trans (hbx.out.mono hsz2)))
            have q0 := LX9.out.cell 0
            have q1 := LX9.out.cell 1
            have q2 := LX9.out.cell 2
            have f0 := LX9.out.frozen 0
            have f1 := LX9.out.frozen 1
            have f2 := LX9.out.frozen 2
            have b0 := hlb.out.cell 0
            have b1 := hlb.out.cell 1
            have b2 := hlb.out.cell 2
            simp only [List.getElem?_toArray, List.getElem?_cons_zero, List.getElem?_cons_succ] at q0 q1 q2 b0 b1 b2
            have hv3 := ownsRow_setCell_below (ownsRow_setCell_below (ownsRow_setCell_below hvo.out (a := ⟨w.heap.size, 0, none⟩) (by dsimp only; omega) (.int .i64 (rows.length : Int))) (a := ⟨w.heap.size, 1, none⟩) (by dsimp only; omega) (.int .i64 (C : Int))) (a := ⟨w.heap.size, 2, none⟩) (by dsimp only; omega) (.slice (An) (padAll (rows.map mV) C).length cn)
            have HV3 := Lib.hid (VOwn.vsl hv3)
            clear hv3
            go_wp2_with fail
            refine bodyPost_ret (v := .tuple #[.agg #[.int .i64 (rows.length : Int), .int .i64 (C : Int), .slice An (padAll (rows.map mV) C).length cn], .int .i64 0, .int .i64 0]) (by simp [results, Tryz.results13, go_sem, q0, q1, q2]) rfl ?_
            refine ⟨An, cn, by rw [hfin.out]; rfl, by rw [hfin.out]; exact HV3.out.2, ?_⟩
            exact ((HBQ.out.setCell (p := ⟨_, _, none⟩) (Nat.le_refl _) _).setCell (p := ⟨_, _, none⟩) (Nat.le_refl _) _).setCell (p := ⟨_, _, none⟩) (Nat.le_refl _) _
      · have b0 : (ee != 0) = true := by rw [bne_iff_ne]; exact he
        have hc : Hid (cRead s = ((0, 0, []), rows.length + 1, ee)) := Lib.hid (by rw [HD.out, if_pos he])
        clear he
        go_wp2_with fail
        refine bodyPost_ret (v := .tuple #[.agg #[.int .i64 0, .int .i64 0, .slice none 0 0], .int .i64 ((rows.length : Int) + 1), .int .i64 ee]) (by simp [results, Tryz.results13, go_sem, q0, q1, q2]) rfl ?_
        refine ⟨none, 0, by rw [hc.out]; rfl, by rw [hc.out]; exact fun h => absurd h (Nat.lt_irrefl 0), ?_⟩
        exact ((HB5.out.setCell (p := ⟨_, _, none⟩) (Nat.le_refl _) _).setCell (p := ⟨_, _, none⟩) (Nat.le_refl _) _).setCell (p := ⟨_, _, none⟩) (Nat.le_refl _) _
end Go.Proofs.YteccjdclkcipbaaGreatDoor
