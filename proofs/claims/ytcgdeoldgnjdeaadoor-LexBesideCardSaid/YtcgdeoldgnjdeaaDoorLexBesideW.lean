/-
  counterpanelaw05.LexBeside: the walk.
-/
import Derived.Test.YtcgdeoldgnjdeaaDoorLexO
import Derived.Test.YtcgdeoldgnjdeaaDoorPlainB
import Derived.Test.YtcgdeoldgnjdeaaDoorPlainS
namespace Go.Proofs.YtcgdeoldgnjdeaaDoor
open Go.RowKit

set_option maxRecDepth 100000 in
set_option maxHeartbeats 1600000 in
theorem lexBeside_great (s t : Bs) (w : World) (hs : 200 < s.length ∨ 200 < t.length) (ht : Tab w) :
    Calls Tryd.prog 4 #[.string ⟨s.toArray⟩, .string ⟨t.toArray⟩] w fun e w' => e = .returned (.bool true) ∧ Below w.heap.size w w' := by
  have HT := Lib.hid ht
  clear ht
  go_enter Tryd.func4, Tryd.ntmps4
  go_wp2_with fail
  refine (awake_any _ HT.out).mono ?_
  rintro e w1 ⟨rfl, hb1⟩
  have HB1 := Lib.hid hb1
  have HT1 : Hid (Tab w1) := Lib.hid (HT.out.next hb1)
  clear hb1
  by_cases h1 : 200 < s.length
  · clear hs
    go_wp2_with fail
    refine (awake_any _ HT1.out).mono ?_
    rintro e w2 ⟨rfl, hb2⟩
    have HB2 : Hid (Below w.heap.size w w2) := Lib.hid (HB1.out.trans (hb2.mono HB1.out.size))
    clear hb2
    go_wp2_with fail
    go_ret
    exact ⟨rfl, HB2.out⟩
  · have h2 : 200 < t.length := by omega
    clear hs
    go_wp2_with fail
    refine (awake_any _ HT1.out).mono ?_
    rintro e w2 ⟨rfl, hb2⟩
    have HB2 : Hid (Below w.heap.size w w2) := Lib.hid (HB1.out.trans (hb2.mono HB1.out.size))
    clear hb2
    go_wp2_with fail
    go_ret
    exact ⟨rfl, HB2.out⟩

theorem own_cap {w : World} {base : Nat} {e : TypeId} {size : Nat} {a : Addr} {n cap : Nat} {xs : List Value} (h : w.ownsRow base e size (.slice (some a) n cap) n xs) : n ≤ cap := by
  rcases h.2 with ⟨hv, _⟩ | ⟨g, cap', cur, hv, _, _, hc, _⟩
  · cases hv
  · injection hv with _ _ hc'
    subst hc'
    exact hc
set_option maxRecDepth 100000 in
set_option maxHeartbeats 1600000 in
theorem lexBeside_small (s t : Bs) (w : World) (hs : s.length ≤ 200) (hs2 : t.length ≤ 200) (ht : Tab w) :
    Calls Tryd.prog 4 #[.string ⟨s.toArray⟩, .string ⟨t.toArray⟩] w fun e w' => e = .returned (.bool true) ∧ Below w.heap.size w w' := by
  have HT := Lib.hid ht
  clear ht
  go_enter Tryd.func4, Tryd.ntmps4
  go_wp2_with fail
  refine (awake_any _ HT.out).mono ?_
  rintro e w1 ⟨rfl, hb1⟩
  have HB1 := Lib.hid hb1
  have HT1 : Hid (Tab w1) := Lib.hid (HT.out.next hb1)
  clear hb1 HT
  go_wp2_with fail
  cases ha : pLex s with
  | error ka =>
    refine (lex_bad s ka _ (by omega) HT1.out ha).mono ?_
    rintro e w2 ⟨rfl, hb2⟩
    have HB2 : Hid (Below w.heap.size w w2) := Lib.hid (HB1.out.trans (hb2.mono HB1.out.size))
    have HT2 : Hid (Tab w2) := Lib.hid (HT1.out.next hb2)
    clear hb2 HT1 HB1
    go_wp2_with fail
    cases hb : pLex t with
    | error kb =>
      refine (lex_bad t kb _ (by omega) HT2.out hb).mono ?_
      rintro e w3 ⟨rfl, hb3⟩
      have HB3 : Hid (Below w.heap.size w w3) := Lib.hid (HB2.out.trans (hb3.mono HB2.out.size))
      clear hb3
      go_wp2_with fail
      go_ret
      exact ⟨rfl, HB3.out⟩
    | ok b =>
      refine (lex_ok t b _ (by omega) HT2.out hb).mono ?_
      rintro e w3 ⟨g, cap, rfl, hown, hb3⟩
      have HB3 : Hid (Below w.heap.size w w3) := Lib.hid (HB2.out.trans (hb3.mono HB2.out.size))
      clear hb3 hown
      go_wp2_with fail
      go_ret
      exact ⟨rfl, HB3.out⟩
  | ok a =>
    have HBS := Lib.hid (pLex_beside s t a ha)
    refine (lex_ok s a _ (by omega) HT1.out ha).mono ?_
    rintro e w2 ⟨ga, capa, rfl, howna, hb2⟩
    have HB2 : Hid (Below w.heap.size w w2) := Lib.hid (HB1.out.trans (hb2.mono HB1.out.size))
    have HT2 : Hid (Tab w2) := Lib.hid (HT1.out.next hb2)
    have HOA := Lib.hid howna
    clear hb2 HT1 HB1 howna
    have hlen : (s ++ 32 :: t).length ≤ 1000000 := by simp; omega
    go_wp2_with fail
    cases hb : pLex t with
    | error kb =>
      refine (lex_bad t kb _ (by omega) HT2.out hb).mono ?_
      rintro e w3 ⟨rfl, hb3⟩
      have HB3 : Hid (Below w.heap.size w w3) := Lib.hid (HB2.out.trans (hb3.mono HB2.out.size))
      have HT3 : Hid (Tab w3) := Lib.hid (HT2.out.next hb3)
      clear hb3 HT2 HB2
      have hkb := pLex_err t kb hb
      obtain ⟨q, hq⟩ : ∃ q, q = kb + (s.length + 1) := ⟨_, rfl⟩
      have hl : Hid (pLex (s ++ 32 :: t) = .error q) := Lib.hid (by rw [HBS.out, hb, hq]; rfl)
      have hq2 : ((q : Int) == (s.length : Int) + 1 + (kb : Int)) = true := by rw [beq_iff_eq]; omega
      clear hq hb ha
      go_wp2_with fail
      refine (lex_bad (s ++ 32 :: t) _ _ hlen HT3.out hl.out).mono ?_
      rintro e w4 ⟨rfl, hb4⟩
      have HB4 : Hid (Below w.heap.size w w4) := Lib.hid (HB3.out.trans (hb4.mono HB3.out.size))
      clear hb4 HT3 HB3
      go_wp2_with fail
      go_ret
      exact ⟨rfl, HB4.out⟩
    | ok b =>
      have hna := pLex_len s a ha
      have hnb := pLex_len t b hb
      have HPL := Lib.hid (pLex_place t b hb)
      refine (lex_ok t b _ (by omega) HT2.out hb).mono ?_
      rintro e w3 ⟨gb, capb, rfl, hownb, hb3⟩
      have HB3 : Hid (Below w.heap.size w w3) := Lib.hid (HB2.out.trans (hb3.mono HB2.out.size))
      have HT3 : Hid (Tab w3) := Lib.hid (HT2.out.next hb3)
      have HOA3 := Lib.hid (own_next hb3 HOA.out)
      have hga2 := (HOA.out.lt ga rfl).2
      have HB2s := HB2.out.size
      have HOB := Lib.hid hownb
      have hgb2 := (HOB.out.lt gb rfl).2
      have hl : Hid (pLex (s ++ 32 :: t) = .ok (a ++ b.map (shiftTok (s.length + 1)))) := Lib.hid (by rw [HBS.out, hb]; rfl)
      clear hb3 HT2 HB2 hownb HOA hb ha HBS
      go_wp2_with fail
      refine (lex_ok (s ++ 32 :: t) _ _ hlen HT3.out hl.out).mono ?_
      rintro e w4 ⟨gl, capl, rfl, hownl, hb4⟩
      have HB4 : Hid (Below w.heap.size w w4) := Lib.hid (HB3.out.trans (hb4.mono HB3.out.size))
      have HOA4 := Lib.hid (own_next hb4 HOA3.out)
      have HOB4 := Lib.hid (own_next hb4 HOB.out)
      have HOL := Lib.hid hownl
      clear hb4 HT3 HB3 hownl HOA3 HOB
      have hcapl := own_cap HOL.out
      have hcapa := own_cap HOA4.out
      rw [List.length_append, List.length_map] at hcapl
      have hgab : ga < gb := by have := (HOB4.out.lt gb rfl).1; omega
      have hgbl : gb < gl := by have := (HOL.out.lt gl rfl).1; omega
      have hq1 : ((a.length : Int) + (b.length : Int) + 1 != (a.length : Int) + ((b.length : Int) + 1)) = false := by rw [bne_eq_false_iff_eq]; omega
      obtain ⟨B, hB⟩ : ∃ B, B = b ++ [endTok t.length] := ⟨_, rfl⟩
      have hBl : B.length = b.length + 1 := by rw [hB]; simp
      have HB0 : Hid (w4.ownsRow w2.heap.size 34 3 (.slice (some ⟨gb, 0, none⟩) (b.length + 1) capb) (b.length + 1) (rowCells (stepToks (s.length + 1) 0 B))) := Lib.hid (by rw [stepToks_zero, hB]; exact HOB4.out)
      have HBB := Lib.hid hB
      have hpl : Hid (∀ j (h : j < B.length), B[j].place ≤ 200) := Lib.hid (by
        intro j hj
        have hm : B[j] ∈ b ++ [endTok t.length] := by rw [← hB]; exact List.getElem_mem hj
        rcases List.mem_append.1 hm with h | h
        · have := HPL.out _ h; omega
        · simp at h; rw [h]; exact hs2)
      have HBl := Lib.hid hBl
      clear hB hBl HOB4
      go_wp2_with fail
      go_loopw [14] (fun i wr => ∃ k : Nat, k ≤ b.length + 1 ∧ i = .int .i64 k ∧ Hid (wr.ownsRow w2.heap.size 34 3 (.slice (some ⟨gb, 0, none⟩) (b.length + 1) capb) (b.length + 1) (rowCells (stepToks (s.length + 1) k B)))
          ∧ Hid (wr.ownsRow w1.heap.size 34 3 (.slice (some ⟨ga, 0, none⟩) (a.length + 1) capa) (a.length + 1) (rowCells (a ++ [endTok s.length])))
          ∧ Hid (wr.ownsRow w3.heap.size 34 3 (.slice (some ⟨gl, 0, none⟩) ((a ++ b.map (shiftTok (s.length + 1))).length + 1) capl) ((a ++ b.map (shiftTok (s.length + 1))).length + 1) (rowCells (a ++ b.map (shiftTok (s.length + 1)) ++ [endTok (s ++ 32 :: t).length])))
          ∧ Hid (Below w.heap.size w wr)) (fun i _ => b.length + 1 - (intOf i).toNat)
      case atStart => exact ⟨0, Nat.zero_le _, rfl, HB0, HOA4, HOL, HB4⟩
      case round =>
        obtain ⟨k, hk, rfl, hob, hoa, hol, hbel⟩ := hrel
        by_cases hlt : k < b.length + 1
        · have hltB : k < B.length := by rw [HBl.out]; exact hlt
          have hltS : k < (stepToks (s.length + 1) k B).length := by rw [stepToks_len]; exact hltB
          have hget := (rowCells_get _ k hltS).2.2
          rw [stepToks_get _ _ _ hltB] at hget
          have hc : wr.cell? ⟨gb, k * 3 + 2, none⟩ = some (.int .i64 B[k].place) := (hob.out.cellAt _ (by omega)).trans hget
          have hf : wr.frozen? ⟨gb, k * 3 + 2, none⟩ = false := hob.out.frozenAt _
          have hplk := hpl.out k hltB
          clear hget
          go_wp2_with fail
          go_roundw
          case rel =>
            have hval : ((B[k].place : Nat) : Int) + (s.length : Int) + 1 = ((B[k].place + (s.length + 1) : Nat) : Int) := by omega
            have hst := (hob.out.stored (k * 3 + 2) (.int .i64 ((B[k].place + (s.length + 1) : Nat) : Int))).1
            rw [hval]
            refine ⟨k + 1, by omega, by go_num, Lib.hid ?_, Lib.hid (ownsRow_setCell_other hoa.out (by simp [Value.ownBlock]; omega) _), Lib.hid (ownsRow_setCell_other hol.out (by simp [Value.ownBlock]; omega) _), Lib.hid (hbel.out.setCell (p := ⟨gb, k * 3 + 2, none⟩) (by have h1 := (hob.out.lt gb rfl).1; have h2 := HB2s; show w.heap.size ≤ gb; omega) _)⟩
            have e1 := rowCells_set _ k hltS (B[k].place + (s.length + 1))
            rw [stepToks_get _ _ _ hltB] at e1
            rw [← stepToks_set _ _ _ hltB]
            show World.ownsRow _ _ _ _ _ _ (rowCells ((stepToks (s.length + 1) k B).set k ⟨B[k].kind, B[k].text, B[k].place + (s.length + 1)⟩))
            rw [e1]
            exact hst
          case measure => simp [intOf]; omega
        · obtain rfl : k = b.length + 1 := by omega
          have hob2 : Hid (wr.ownsRow w2.heap.size 34 3 (.slice (some ⟨gb, 0, none⟩) (b.length + 1) capb) (b.length + 1) (rowCells (B.map (shiftTok (s.length + 1))))) := Lib.hid (by rw [← HBl.out] at hob; rw [stepToks_all] at hob; rw [HBl.out] at hob; exact hob.out)
          have hal : (a ++ b.map (shiftTok (s.length + 1)) ++ [endTok (s ++ 32 :: t).length]).length = (a ++ b.map (shiftTok (s.length + 1))).length + 1 := by simp; omega
          have TL : Hid (TokIn wr (some ⟨gl, 0, none⟩) (a ++ b.map (shiftTok (s.length + 1)) ++ [endTok (s ++ 32 :: t).length])) := Lib.hid (tokIn_own (by rw [hal]; exact hol.out))
          have TA : Hid (TokIn wr (some ⟨ga, 0, none⟩) (a ++ [endTok s.length])) := Lib.hid (tokIn_own (by simpa using hoa.out))
          have TB : Hid (TokIn wr (some ⟨gb, 0, none⟩) (B.map (shiftTok (s.length + 1)))) := Lib.hid (tokIn_own (by rw [List.length_map, HBl.out]; exact hob2.out))
          have T1 : Hid (TokIn wr (some ⟨gl, 0, none⟩) a) := Lib.hid (by have := TL.out.head a.length; rw [List.append_assoc, List.take_left] at this; exact this)
          have T2 : Hid (TokIn wr (some ⟨ga, 0, none⟩) a) := Lib.hid (by have := TA.out.head a.length; rw [List.take_left] at this; exact this)
          have T3 : Hid (TokIn wr (some ⟨gl, a.length * 3, none⟩) (B.map (shiftTok (s.length + 1)))) := Lib.hid (by
            have := TL.out.tail a.length
            rw [List.append_assoc, List.drop_left] at this
            rw [HBB.out]
            have e : (endTok (s ++ 32 :: t).length) = shiftTok (s.length + 1) (endTok t.length) := by simp [endTok, shiftTok]; omega
            rw [e, Nat.zero_add] at this
            simpa using this)
          have hBm : Hid ((B.map (shiftTok (s.length + 1))).length = b.length + 1) := Lib.hid (by rw [List.length_map]; exact HBl.out)
          clear hob hob2 hoa hol HB4 HOA4 HOL hpl HPL TL TA hal HBB HBl HB0
          generalize B.map (shiftTok (s.length + 1)) = Bm at *
          have i0 : (0 : Int) ≤ (a.length : Int) := Int.natCast_nonneg _
          have i1 : (a.length : Int) ≤ (capl : Int) := by omega
          have i2 : (a.length : Int) ≤ (capa : Int) := by omega
          have i3 : (a.length : Int) ≤ (a.length : Int) + (b.length : Int) + 1 := by omega
          have i4 : ¬ capl = a.length := by omega
          have i7 : a.length + b.length + 1 - a.length = b.length + 1 := by omega
          have i5 : IntKind.i64.wrap (a.length : Int) = (a.length : Int) := IntWalk.i64_in _ (by omega)
          have i6 : IntKind.i64.wrap ((a.length : Int) + 1 - 1) = (a.length : Int) := by rw [show (a.length : Int) + 1 - 1 = (a.length : Int) by omega]; exact i5
          go_wp2_with fail
          go_region_held3 (fun w' => Below wr.heap.size wr w') (first | exact Below.refl _ _ | exact (Below.refl _ _).drew | exact (Below.refl _ wr).drew.trans hb | (refine Below.trans ?_ (Below.mono hb (Below.size (B := wr.heap.size) ?_)) <;> assumption))
            (first
              | (go_at_call_of 22 (Value.slice (some ⟨gl, 0, none⟩) a.length capl); refine (of_at _ _ _ a _ rfl (by omega) (TokIn.next T1.out (by first | assumption | exact (Below.refl _ _).drew))).mono ?_; rintro e wx ⟨A1, c1, rfl, tl, hb⟩; try (replace ta := TokIn.next ta hb))
              | (go_at_call_of 22 (Value.slice (some ⟨ga, 0, none⟩) a.length capa); refine (of_at _ _ _ a _ rfl (by omega) (TokIn.next T2.out (by first | assumption | exact (Below.refl _ _).drew))).mono ?_; rintro e wx ⟨A2, c2, rfl, ta, hb⟩; try (replace tl := TokIn.next tl hb))
              | (go_at_call_of 22 (Value.slice (some ⟨gl, a.length * 3, none⟩) (b.length + 1) (capl - a.length)); refine (of_at _ _ _ Bm _ hBm.out (by omega) (TokIn.next T3.out (by first | assumption | exact (Below.refl _ _).drew))).mono ?_; rintro e wx ⟨A3, c3, rfl, tr, hb⟩; try (replace tb := TokIn.next tb hb))
              | (go_at_call 22; refine (of_at (some ⟨gb, 0, none⟩) (b.length + 1) capb Bm _ hBm.out (by omega) (TokIn.next TB.out (by first | assumption | exact (Below.refl _ _).drew))).mono ?_; rintro e wx ⟨A4, c4, rfl, tb, hb⟩; try (replace tr := TokIn.next tr hb))
              | (go_at_call 21; refine (same_at _ _ (b.length + 1) _ _ Bm Bm true _ hBm.out hBm.out (by omega) tr tb (SameToks.refl _ _)).mono ?_; rintro e wx ⟨rfl, hb⟩)
              | (go_at_call 21; refine (same_at _ _ a.length _ _ a a true _ rfl rfl (by omega) tl ta (SameToks.refl _ _)).mono ?_; rintro e wx ⟨rfl, hb⟩; clear tl ta))
          all_goals go_wp2_with fail
          all_goals go_ret
          all_goals exact ⟨rfl, hbel.out.trans (Below.mono (by assumption) hbel.out.size)⟩
end Go.Proofs.YtcgdeoldgnjdeaaDoor
