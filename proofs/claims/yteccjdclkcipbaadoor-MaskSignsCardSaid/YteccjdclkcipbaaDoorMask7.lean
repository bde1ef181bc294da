/-
  mask.Parse: the walk.
-/
import Derived.Test.YteccjdclkcipbaaDoorMask6
namespace Go.Proofs.YteccjdclkcipbaaDoor
open Go.RowKit

theorem infoSec : (Tryd.prog.info? 93).map (fun i => (i.zero, i.size, i.bytes)) = some (some (.agg #[.slice none 0 0, .int .i64 0, .bool false]), 3, 40) := by kernel_rfl
theorem make_sec (W : World) : (Instr.makeSlice 41 (.int .i64 1) (.int .i64 1)).run Tryd.prog W = .ok (.slice (some ⟨W.heap.size, 0, none⟩) 1 1) (W.alloc (.cells #[.slice none 0 0, .int .i64 0, .bool false] 93)) := by kernel_rfl
theorem MSt.start (w : World) (l : Bs) : MSt w l [] ms0 (w.heap.size + 1) 1 (w.heap.size + 3) [] (.slice none 0 0) (((w.alloc (.cells #[.string ⟨#[]⟩, .slice none 0 0] 43)).alloc (.cells #[.slice none 0 0, .int .i64 0, .bool false] 93)).alloc (.cells #[.string ⟨l.toArray⟩, .slice (some ⟨w.heap.size + 1, 0, none⟩) 1 1] 43)) := by
  refine ⟨((Lies.new w _ _).alloc _).alloc _, ?_, rfl, ⟨?_, rfl, World.ownsRow_nil _ _ _ _, by simp⟩, fun i v s h => by simp at h, Nat.le_refl _, (((Below.refl _ w).alloc (Nat.le_refl _) _).alloc (by simp) _).alloc (by simp; omega) _⟩
  · have := Lies.new ((w.alloc (.cells #[.string ⟨#[]⟩, .slice none 0 0] 43)).alloc (.cells #[.slice none 0 0, .int .i64 0, .bool false] 93)) 43 #[.string ⟨l.toArray⟩, .slice (some ⟨w.heap.size + 1, 0, none⟩) 1 1]
    simpa using this
  · have := World.ownsRow_lit (base := w.heap.size + 1) (e := 93) (size := 3) (w.alloc (.cells #[.string ⟨#[]⟩, .slice none 0 0] 43)) #[.slice none 0 0, .int .i64 0, .bool false] 1 (by simp) (by decide) rfl
    simp only [World.size_alloc] at this
    exact this.alloc _
theorem next_at (l : Bs) (a : Nat) (w : World) (ha : a < l.length) (hl : l.length ≤ 1000000) :
    Calls Tryd.prog 57 #[.string ⟨(l.drop a).toArray⟩] w fun e w' => e = .returned (partOut (pNext (l.drop a))) ∧ Below w.heap.size w w' := by
  rw [List.drop_eq_getElem_cons ha]
  exact next_any _ _ _ (by rw [List.length_cons, List.length_drop]; omega)
set_option maxRecDepth 100000 in
set_option maxHeartbeats 6400000 in
theorem parse_mask (l : Bs) (w : World) (hl : l.length ≤ 1000000) :
    Calls Tryd.prog 27 #[.string ⟨l.toArray⟩] w (ParsePost w l (mParse l)) := by
  by_cases h255 : 255 < l.length
  · have hr : Hid (mParse l = .inr (0, 14)) := Lib.hid (by rw [mParse_eq, if_pos h255])
    rw [hr.out]
    go_enter Tryd.func27, Tryd.ntmps27
    go_wp2_with fail
    refine bodyPost_ret (v := .tuple #[.agg #[.string ⟨#[]⟩, .slice none 0 0], .int .i64 0, .int .i64 14]) (by simp [results, Tryd.results27, go_sem]) rfl ?_
    exact ⟨rfl, (Below.refl _ _).alloc (Nat.le_refl _) _⟩
  have hp : mParse l = mFrom l 0 [] ms0 := by rw [mParse_eq, if_neg h255]
  rw [hp]
  have HI0 := Lib.hid (MInv.start l)
  have HS0 := Lib.hid (MSt.start w l)
  generalize hR : mFrom l 0 [] ms0 = R at *
  have HR := Lib.hid hR
  clear hR hp
  have hmk := make_sec
  go_enter Tryd.func27, Tryd.ntmps27
  go_wp2_with fail
  go_loopw [6] (fun v wr => ∃ (a : Nat) (done : List MS) (cur : MS) (g cap pb : Nat) (vs : List Value) (vc : Value), v = .int .i64 (a : Int) ∧ Hid (MInv l a done cur) ∧ Hid (MSt w l done cur g cap pb vs vc wr)) (fun v _ => l.length - (intOf v).toNat)
  case atStart => exact ⟨0, [], ms0, _, _, _, [], _, rfl, HI0, HS0⟩
  case round =>
    obtain ⟨a, done, cur, g, cap, pb, vs, vc, rfl, hI, hS⟩ := hrel
    clear HI0 HS0 hmk
    have hle := hI.out.1
    have h3 := hI.out.2.1
    have c1 := hS.out.box.cell 1
    simp only [List.getElem?_toArray, List.getElem?_cons_zero, List.getElem?_cons_succ] at c1
    have r0 := hS.out.res.cell 0
    have r1 := hS.out.res.cell 1
    simp only [List.getElem?_toArray, List.getElem?_cons_zero, List.getElem?_cons_succ] at r0 r1
    have f0 := hS.out.res.frozen 0
    have f1 := hS.out.res.frozen 1
    have rlt := hS.out.res.lt
    have HB := Lib.hid hS.out.bel
    by_cases hlt : a < l.length
    · have e59 := at_beq l a 59 59 rfl hlt
      cases h59 : atIs l a 59
      · rw [h59] at e59
        have CN := Lib.hid (fun W => next_at l a W hlt hl)
        have hstep := Lib.hid (hI.out.step hlt h59)
        have hadd := Lib.hid (fun x h0 hp => hI.out.add (x := x) hlt h59 h0 hp)
        have hok := Lib.hid (pNext_ok l[a] (l.drop (a + 1)))
        have ed := List.drop_eq_getElem_cons hlt
        rw [← ed] at hok
        clear ed
        go_wp2_with fail
        refine (CN.out _).mono ?_
        rintro e w1 ⟨rfl, hb⟩
        have hS1 := Lib.hid (hS.out.next hb)
        have HB1 := Lib.hid hS1.out.bel
        clear hb hS CN c1 r0 r1 f0 f1 rlt HB
        generalize pNext (l.drop a) = x at *
        obtain ⟨⟨k, tx, wh, cm, pt, ms, ls⟩, n, er⟩ := x
        unfold partOut
        go_upto_region 12 with fail
        have hbn : Below w1.heap.size w1 (w1.alloc (.cells (partC ⟨k, tx, wh, cm, pt, ms, ls⟩) 95)) := (Below.refl _ _).alloc (Nat.le_refl _) _
        have hS2' := hS1.out.next hbn
        have hP2' : Lies (w1.alloc (.cells (partC ⟨k, tx, wh, cm, pt, ms, ls⟩) 95)) w1.heap.size 95 (partC ⟨k, tx, wh, cm, pt, ms, ls⟩) := Lies.new w1 _ _
        obtain ⟨W, hW⟩ : ∃ W, w1.alloc (.cells #[.int .i64 (k : Int), .string ⟨tx.toArray⟩, .int .i64 (wh : Int), .bool cm, .bool pt, .int .i64 (ms : Int), .int .i64 (ls : Int)] 95) = W := ⟨_, rfl⟩
        have hS2 : Hid (MSt w l done cur g cap pb vs vc W) := Lib.hid (by rw [← hW]; exact hS2')
        have hP2 : Hid (Lies W w1.heap.size 95 (partC ⟨k, tx, wh, cm, pt, ms, ls⟩)) := Lib.hid (by rw [← hW]; exact hP2')
        rw [hW]
        have HB2 := Lib.hid hS2.out.bel
        have r0 := hS2.out.res.cell 0
        have r1 := hS2.out.res.cell 1
        simp only [List.getElem?_toArray, List.getElem?_cons_zero, List.getElem?_cons_succ] at r0 r1
        have f0 := hS2.out.res.frozen 0
        have f1 := hS2.out.res.frozen 1
        have rlt := hS2.out.res.lt
        generalize hpb : w1.heap.size = q at *
        clear hW hS2' hP2' hbn hS1 HB1 hpb
        by_cases h13 : er = 13
        · subst h13
          have hres : Hid (R = .inr (l.length, 13)) := Lib.hid (by rw [← HR.out, hstep.out]; rfl)
          clear hstep hadd HR
          go_wp2_with fail
          refine bodyPost_ret (v := .tuple #[.agg #[.string ⟨#[]⟩, .slice none 0 0], .int .i64 (l.length : Int), .int .i64 13]) (by simp [results, Tryd.results27, go_sem, r0, r1]) rfl ?_
          rw [hres.out]
          exact ⟨rfl, (HB2.out.setCell (p := ⟨_, 0, none⟩) (Nat.le_refl _) _).setCell (p := ⟨_, 1, none⟩) (Nat.le_refl _) _⟩
        · have b13 : (er == 13) = false := by rw [beq_eq_false_iff_ne]; exact h13
          by_cases h0 : er = 0
          · subst h0
            have hst0 : Hid (R = match pAdd cur ⟨k, tx, wh, cm, pt, ms, ls⟩ (decide (done.length = 3)) with | none => .inr (a, 6) | some x => mFrom (l.drop (a + n)) (a + n) done x) := Lib.hid (by rw [← HR.out, hstep.out]; rfl)
            have hadd0 := Lib.hid (fun x => hadd.out x rfl)
            have hok0 := Lib.hid (hok.out.2 rfl)
            have c1 := hS2.out.box.cell 1
            simp only [List.getElem?_toArray, List.getElem?_cons_zero, List.getElem?_cons_succ] at c1
            obtain ⟨p0, p1, p2, p3, p4, p5, p6⟩ := lies_cells hP2.out
            dsimp only at p0 p1 p2 p3 p4 p5 p6
            have ed : ((done.length : Int) + 1 == 4) = decide (done.length = 3) := by rw [Bool.eq_iff_iff, beq_iff_eq, decide_eq_true_iff]; omega
            have CA := Lib.hid (fun W' (h : SecIn W' (.slice (some ⟨g, 0, none⟩) (done.length + 1) cap) (w.heap.size + 1) done.length (secsC vs done) vc cur pb) => add_any g (w.heap.size + 1) done.length cap pb (secsC vs done) vc cur ⟨k, tx, wh, cm, pt, ms, ls⟩ (decide (done.length = 3)) W' h (by have := hI.out.2.2.1; omega) (by have := hI.out.2.2.2.1; omega))
            have hSd := Lib.hid hS2.out.drew
            have HIa := Lib.hid (fun v' x W' hs ho => hSd.out.add (w' := W') (v' := v') (x := x) hs ho)
            have HSec : Hid (SecIn W.drew (.slice (some ⟨g, 0, none⟩) (done.length + 1) cap) (w.heap.size + 1) done.length (secsC vs done) vc cur pb) := Lib.hid hSd.out.sec
            have hres0 : Hid (Lies W.drew w.heap.size 43 #[.string ⟨#[]⟩, .slice none 0 0]) := Lib.hid hSd.out.res
            have HBd := Lib.hid hSd.out.bel
            have hn12 := hok0.out
            rw [List.length_drop] at hn12
            have hn1 : 1 ≤ n := hn12.1
            have hn2 : a + n ≤ l.length := by omega
            clear hstep hadd hok ed hI hS2 HR hP2 r0 r1 f0 f1 rlt hok0 hn12
            generalize hdd : done.length = d at *
            have HDD := Lib.hid hdd
            clear hdd
            have ed : ((d : Int) + 1 == 4) = decide (d = 3) := by rw [Bool.eq_iff_iff, beq_iff_eq, decide_eq_true_iff]; omega
            have CA2 : Hid (∀ W', SecIn W' (.slice (some ⟨g, 0, none⟩) (d + 1) cap) (w.heap.size + 1) d (secsC vs done) vc cur pb → Calls Tryd.prog 58 #[.pointer (some ⟨g, d * 3, none⟩), partV ⟨k, tx, wh, cm, pt, ms, ls⟩, .bool (decide (d = 3))] W' (AddPost W' g (.slice (some ⟨g, 0, none⟩) (d + 1) cap) (w.heap.size + 1) d (secsC vs done) vc pb (pAdd cur ⟨k, tx, wh, cm, pt, ms, ls⟩ (decide (d = 3))))) := Lib.hid (fun W' h => by have := CA.out W' h; rw [Nat.mul_comm 3 d] at this; exact this)
            have w2' : IntKind.i64.wrap (d : Int) = (d : Int) := IntWalk.i64_in _ (by omega)
            have w3' : (0 : Int) ≤ (d : Int) := by omega
            have w4' : (d : Int) < (d : Int) + 1 := by omega
            clear CA
            generalize hb3 : decide (d = 3) = b3 at *
            clear hb3
            go_wp2_with fail
            go_still_tail 15, (by kernel_rfl)
            change wpList _ _ _ _ _ W.drew
            generalize W.drew = W2 at *
            go_wp2_with fail
            refine (CA2.out _ HSec.out).mono ?_
            intro e w3 hpo
            unfold AddPost at hpo
            cases hpa : pAdd cur ⟨k, tx, wh, cm, pt, ms, ls⟩ b3 with
            | none =>
              rw [hpa] at hpo
              obtain ⟨rfl, hb⟩ := hpo
              have hres : Hid (R = .inr (a, 6)) := Lib.hid (by rw [hst0.out, hpa])
              have hres3 := Lies.below hres0.out hb
              have r0 := hres3.cell 0
              have r1 := hres3.cell 1
              simp only [List.getElem?_toArray, List.getElem?_cons_zero, List.getElem?_cons_succ] at r0 r1
              have f0 := hres3.frozen 0
              have f1 := hres3.frozen 1
              have rlt := hres3.lt
              have HB3 : Hid (Below w.heap.size w w3) := Lib.hid (HBd.out.trans (hb.mono HBd.out.size))
              clear hres3 hb hpa hst0 hadd0 CA2 HIa HSec hres0 hSd HBd
              go_wp2_with fail
              refine bodyPost_ret (v := .tuple #[.agg #[.string ⟨#[]⟩, .slice none 0 0], .int .i64 (a : Int), .int .i64 6]) (by simp [results, Tryd.results27, go_sem, r0, r1]) rfl ?_
              rw [hres.out]
              exact ⟨rfl, (HB3.out.setCell (p := ⟨_, 0, none⟩) (Nat.le_refl _) _).setCell (p := ⟨_, 1, none⟩) (Nat.le_refl _) _⟩
            | some x =>
              rw [hpa] at hpo
              obtain ⟨rfl, v', hs, ho⟩ := hpo
              have hS4 := Lib.hid (HIa.out v' x w3 hs ho)
              have hI4 := Lib.hid (hadd0.out x hpa)
              clear hs ho hpa hst0 hadd0 CA2 HIa HSec hres0 hSd HBd
              go_wp2_with fail
              go_roundw
              case rel => exact ⟨a + n, done, x, g, cap, pb, vs, v', by go_num, hI4, hS4⟩
              case measure => simp [intOf]; omega
          · have b0 : (er != 0) = true := by simp [h0]
            have hres : Hid (R = .inr (a, 6)) := Lib.hid (by rw [← HR.out, hstep.out, if_neg h13, if_pos h0])
            clear hstep hadd HR h0 h13
            go_wp2_with fail
            go_quiet (fail)
            go_wp2_with fail
            refine bodyPost_ret (v := .tuple #[.agg #[.string ⟨#[]⟩, .slice none 0 0], .int .i64 (a : Int), .int .i64 6]) (by simp [results, Tryd.results27, go_sem, r0, r1]) rfl ?_
            rw [hres.out]
            exact ⟨rfl, ((below_drewN HB2.out nq).setCell (p := ⟨_, 0, none⟩) (Nat.le_refl _) _).setCell (p := ⟨_, 1, none⟩) (Nat.le_refl _) _⟩
      · rw [h59] at e59
        by_cases hd3 : done.length = 3
        · have hres : Hid (R = .inr (a, 10)) := Lib.hid (by rw [← HR.out]; exact hI.out.full hlt h59 hd3)
          rw [hd3] at c1
          clear hI hS
          go_wp2_with fail
          refine bodyPost_ret (v := .tuple #[.agg #[.string ⟨#[]⟩, .slice none 0 0], .int .i64 (a : Int), .int .i64 10]) (by simp [results, Tryd.results27, go_sem, r0, r1]) rfl ?_
          rw [hres.out]
          exact ⟨rfl, (HB.out.setCell (p := ⟨_, 0, none⟩) (Nat.le_refl _) _).setCell (p := ⟨_, 1, none⟩) (Nat.le_refl _) _⟩
        · have hI2 := Lib.hid (hI.out.semi hlt h59 hd3)
          have ed : ((done.length : Int) + 1 == 4) = false := by rw [beq_eq_false_iff_ne]; omega
          clear r0 r1 f0 f1 rlt HB
          obtain ⟨i0, hi, hz0, hz1, hz2⟩ := info_parts infoSec
          have hbn : Below wr.heap.size wr (wr.alloc (.cells #[.slice none 0 0, .int .i64 0, .bool false] 93)) := (Below.refl _ _).alloc (Nat.le_refl _) _
          have hSA := Lib.hid (hS.out.next hbn)
          clear hbn
          go_wp2_with (at_builtin; refine wpList_append_lies _ rfl (.tmp 32) (.tmp 34) 41 rfl (w.heap.size + 1) 93 i0 _ 3 40 Tryd.underlying41 hi hz0 hz1 hz2 rfl (by decide) (.slice (some ⟨g, 0, none⟩) (done.length + 1) cap) (done.length + 1) (secsC vs done ++ secC vc cur) rfl hSA.out.sec.list ⟨wr.heap.size, 0, none⟩ 1 1 [.slice none 0 0, .int .i64 0, .bool false] rfl rfl (World.news_of_block (cs := #[.slice none 0 0, .int .i64 0, .bool false]) (t := 93) (fr := (0, 0)) (heap_alloc_new wr _)) ?c1 (by decide) ?c3 ?c4 ?c5 (wr.heap.size + 1) (by simp) ?_)
          case c1 =>
            intro u hu
            simp at hu
            rcases hu with rfl | rfl | rfl <;> rfl
          case c3 => unfold maxLen; omega
          case c4 => omega
          case c5 => have := hS.out.bel.size; have := hS.out.box.lt; simp; omega
          intro g2 cap2 w1 hown hgrow _ _
          have hbk := hSA.out.box_kept hgrow
          have e1 := hbk.cell 1
          have e2 := hbk.frozen 1
          simp only [List.getElem?_toArray, List.getElem?_cons_zero, List.getElem?_cons_succ] at e1
          have hS2 := Lib.hid (hSA.out.semi (by rw [List.append_assoc]; exact hown) hgrow)
          clear hown hgrow hbk hSA hS c1
          go_wp2_with fail
          go_roundw
          case rel => exact ⟨a + 1, done ++ [cur], ms0, _, _, _, _, _, by go_num, hI2, hS2⟩
          case measure => simp [intOf]; omega
    · have hres : Hid (R = .inl (done ++ [cur])) := Lib.hid (by rw [← HR.out]; exact hI.out.done hlt)
      have c0 := hS.out.box.cell 0
      simp only [List.getElem?_toArray, List.getElem?_cons_zero] at c0
      have hF := Lib.hid ((hS.out.fmt.set hS.out.res 0 (.string ⟨l.toArray⟩)).set (hS.out.res.put 0 (.string ⟨l.toArray⟩)) 1 (.slice (some ⟨g, 0, none⟩) (done.length + 1) cap))
      clear hI hS
      go_wp2_with fail
      refine bodyPost_ret (v := .tuple #[.agg #[.string ⟨l.toArray⟩, .slice (some ⟨g, 0, none⟩) (done.length + 1) cap], .int .i64 0, .int .i64 0]) (by simp [results, Tryd.results27, go_sem, r0, r1]) rfl ?_
      rw [hres.out]
      exact ⟨_, rfl, hF.out, (HB.out.setCell (p := ⟨_, 0, none⟩) (Nat.le_refl _) _).setCell (p := ⟨_, 1, none⟩) (Nat.le_refl _) _⟩
end Go.Proofs.YteccjdclkcipbaaDoor
