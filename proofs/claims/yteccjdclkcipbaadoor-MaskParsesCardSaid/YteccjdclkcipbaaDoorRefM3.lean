/-
  counterpaneref31.Parse: the place and the error that it returns.
-/
import Derived.Test.YteccjdclkcipbaaDoorRefM1
import Derived.Test.YteccjdclkcipbaaDoorRefM2
import Derived.Test.YteccjdclkcipbaaDoorMask7
namespace Go.Proofs.YteccjdclkcipbaaDoor
open Go.RowKit

def placeOf : List MS ⊕ (Nat × Int) → Nat
  | .inl _ => 0
  | .inr p => p.1
def errOf : List MS ⊕ (Nat × Int) → Int
  | .inl _ => 0
  | .inr p => p.2
def RParsePost (r : List MS ⊕ (Nat × Int)) (w : World) (e : Ending) (w' : World) : Prop := ∃ v, e = .returned (.tuple #[v, .int .i64 (placeOf r : Int), .int .i64 (errOf r)]) ∧ Below w.heap.size w w'
/-- the sections' row, and the last one's parts -/
structure OSt (w : World) (d : Nat) (g cap : Nat) (xs : List Value) (sv : Value) (n : Nat) (ys : List Value) (wr : World) : Prop where
  list : wr.ownsRow w.heap.size 117 1 (.slice (some ⟨g, 0, none⟩) (d + 1) cap) (d + 1) (xs ++ [sv])
  len : xs.length = d
  row : wr.ownsRow w.heap.size 112 7 sv n ys
  bel : Below w.heap.size w wr
theorem OSt.next {w wr w' : World} {d g cap n : Nat} {xs ys : List Value} {sv : Value} (h : OSt w d g cap xs sv n ys wr) (hb : Below wr.heap.size wr w') : OSt w d g cap xs sv n ys w' :=
  ⟨own_next hb h.list, h.len, own_next hb h.row, h.bel.trans (hb.mono h.bel.size)⟩
theorem OSt.start (w : World) : OSt w 0 w.heap.size 1 [] (.slice none 0 0) 0 [] (w.alloc (.cells #[.slice none 0 0] 117)) := by
  refine ⟨?_, rfl, World.ownsRow_nil _ _ _ _, (Below.refl _ w).alloc (Nat.le_refl _) _⟩
  exact World.ownsRow_lit (base := w.heap.size) (e := 117) (size := 1) w #[.slice none 0 0] 1 (by simp) (by decide) rfl
theorem OSt.semi {w wr w1 : World} {d g cap n g2 cap2 : Nat} {xs ys : List Value} {sv : Value} (h : OSt w d g cap xs sv n ys wr) (hown : w1.ownsRow w.heap.size 117 1 (.slice (some ⟨g2, 0, none⟩) (d + 1 + 1) cap2) (d + 1 + 1) ((xs ++ [sv]) ++ [.slice none 0 0])) (hg : wr.grownBy w1 (some g)) :
    OSt w (d + 1) g2 cap2 (xs ++ [sv]) (.slice none 0 0) 0 [] w1 :=
  ⟨hown, by simp [h.len], World.ownsRow_nil _ _ _ _, h.bel.grown hg h.bel.size (fun k e => by
    have := (h.list.lt g rfl).1
    simp only [Option.some.injEq] at e
    omega)⟩
theorem rp_one (kd z u m : Int) (tx : Bs) (g p : Bool) : ∀ x ∈ (rpartC kd tx z u m g p).toList, x.oneCell' = true := by
  intro x hx
  simp [rpartC] at hx
  rcases hx with rfl | rfl | rfl | rfl | rfl | rfl | rfl <;> rfl
section
variable {w wr w1 : World} {d g cap n : Nat} {xs ys new : List Value} {sv sv' : Value}
theorem OSt.cell (h : OSt w d g cap xs sv n ys wr) : wr.cell? ⟨g, d, none⟩ = some sv ∧ wr.frozen? ⟨g, d, none⟩ = false := by
  refine ⟨?_, h.list.frozenAt _⟩
  rw [h.list.cellAt _ (by rw [Nat.mul_one]; omega), List.getElem?_append_right (by rw [h.len]; exact Nat.le_refl _), h.len, Nat.sub_self]
  rfl
theorem OSt.lt (h : OSt w d g cap xs sv n ys wr) : g < wr.heap.size := (h.list.lt g rfl).2
theorem OSt.apart (h : OSt w d g cap xs sv n ys wr) : sv.ownBlock ≠ some g := by
  rcases own_apart h.row h.list (by decide) with e | e
  · rw [e]; simp
  · exact e
theorem OSt.after (h : OSt w d g cap xs sv n ys wr) (hg : wr.grownBy w1 sv.ownBlock) : w1.cell? ⟨g, d, none⟩ = some sv ∧ w1.frozen? ⟨g, d, none⟩ = false := by
  have hb : w1.heap[g]? = wr.heap[g]? := hg.block g h.lt (fun e => h.apart e.symm)
  exact ⟨(World.cell?_of_block (a := ⟨g, d, none⟩) hb).trans h.cell.1, (World.frozen?_of_block (a := ⟨g, d, none⟩) hb).trans h.cell.2⟩
theorem OSt.more (h : OSt w d g cap xs sv n ys wr) (hown : w1.ownsRow w.heap.size 112 7 sv' (n + 1) (ys ++ new)) (hg : wr.grownBy w1 sv.ownBlock) : OSt w d g cap xs sv' (n + 1) (ys ++ new) (w1.setCell ⟨g, d, none⟩ sv') := by
  have hl : w1.ownsRow w.heap.size 117 1 (.slice (some ⟨g, 0, none⟩) (d + 1) cap) (d + 1) (xs ++ [sv]) := h.list.kept hg (own_apart h.list h.row (by decide))
  have ha : sv'.ownBlock ≠ some g := by
    rcases own_apart hown hl (by decide) with e | e
    · rw [e]; simp
    · exact e
  refine ⟨?_, h.len, ownsRow_setCell_other hown (a := ⟨g, d, none⟩) ha sv', ?_⟩
  · have := (hl.stored d sv').1
    rw [List.set_append_right _ _ (by rw [h.len]; exact Nat.le_refl _), h.len, Nat.sub_self] at this
    exact this
  · have hb : Below w.heap.size w w1 := h.bel.grown hg h.bel.size (own_ge h.row)
    exact hb.setCell (p := ⟨g, d, none⟩) (h.list.lt g rfl).1 _
end
theorem infoRP : (Tryd.prog.info? 112).map (fun i => (i.zero, i.size, i.bytes)) = some (some (.agg #[.int .i64 0, .string ⟨#[]⟩, .int .i64 0, .int .i64 0, .int .i64 0, .bool false, .bool false]), 7, 56) := by kernel_rfl
theorem infoRS : (Tryd.prog.info? 117).map (fun i => (i.zero, i.size, i.bytes)) = some (some (.slice none 0 0), 1, 24) := by kernel_rfl
set_option maxRecDepth 100000 in
set_option maxHeartbeats 6400000 in
theorem parse31_any (l : Bs) (w : World) (hl : l.length ≤ 1000000) :
    Calls Tryd.prog 33 #[.string ⟨l.toArray⟩] w (RParsePost (mParse l) w) := by
  by_cases h255 : 255 < l.length
  · have hr : Hid (mParse l = .inr (0, 14)) := Lib.hid (by rw [mParse_eq, if_pos h255])
    go_enter Tryd.func33, Tryd.ntmps33
    go_wp2_with fail
    go_ret3
    exact ⟨.slice none 0 0, by rw [hr.out]; rfl, Below.refl _ _⟩
  have hp : mParse l = mFrom l 0 [] ms0 := by rw [mParse_eq, if_neg h255]
  rw [hp]
  have HI0 := Lib.hid (MInv.start l)
  have HS0 := Lib.hid (OSt.start w)
  generalize hR : mFrom l 0 [] ms0 = R at *
  have HR := Lib.hid hR
  clear hR hp
  have hl2 : l.length ≤ 255 := by omega
  clear h255 hl
  go_enter Tryd.func33, Tryd.ntmps33
  go_wp2_with fail
  go_loopg [5, 6, 7] (l.length) (fun gk vo v1 v wr => ∃ (a : Nat) (done : List MS) (cur : MS) (g cap n : Nat) (xs ys : List Value) (sv : Value), v = .int .i64 (a : Int) ∧ vo = .slice (some ⟨g, 0, none⟩) (done.length + 1) cap ∧ v1 = .bool cur.number ∧ gk = l.length - a ∧ n ≤ a ∧ Hid (MInv l a done cur) ∧ Hid (OSt w done.length g cap xs sv n ys wr))
  case atStart => exact ⟨0, [], ms0, _, _, 0, [], [], _, rfl, rfl, rfl, by omega, Nat.le_refl _, HI0, HS0⟩
  case round =>
    obtain ⟨a, done, cur, g, cap, n, xs, ys, sv, rfl, rfl, rfl, rfl, hn, hI, hS⟩ := hrel
    clear HI0 HS0
    have hle := hI.out.1
    have h3 := hI.out.2.1
    by_cases hlt : a < l.length
    · have e59 := at_beq l a 59 59 rfl hlt
      go_upto_block 2 with fail
      have hWb : Below wr.heap.size wr (wr.alloc (.cells #[.int .i64 0, .string ⟨#[]⟩, .int .i64 0, .int .i64 0, .int .i64 0, .bool false, .bool false] 112)) := (Below.refl _ _).alloc (Nat.le_refl _) _
      have hWl : Lies (wr.alloc (.cells #[.int .i64 0, .string ⟨#[]⟩, .int .i64 0, .int .i64 0, .int .i64 0, .bool false, .bool false] 112)) wr.heap.size 112 (rpartC 0 [] 0 0 0 false false) := Lies.new wr _ _
      generalize hW : wr.alloc (.cells #[.int .i64 0, .string ⟨#[]⟩, .int .i64 0, .int .i64 0, .int .i64 0, .bool false, .bool false] 112) = W at *
      have HWB := Lib.hid hWb
      have HWL := Lib.hid hWl
      have HQl : Hid (wr.heap.size < W.heap.size) := Lib.hid hWl.lt
      clear hW hWb hWl
      have HBw := Lib.hid (hS.out.bel.trans (HWB.out.mono hS.out.bel.size))
      have ed3 : ((done.length : Int) == 3) = decide (done.length = 3) := by rw [Bool.eq_iff_iff, beq_iff_eq, decide_eq_true_iff]; omega
      have ed3n : ((done.length : Int) != 3) = !decide (done.length = 3) := by rw [← ed3]; rfl
      generalize hdd : done.length = d at *
      have HDD := Lib.hid hdd
      clear hdd
      generalize hb3 : decide (d = 3) = b3 at *
      have HB3 := Lib.hid hb3
      clear hb3
      go_cut [5, 6, 7, 10] (fun v5 v6 v7 v10 wx => ∃ (x : MS) (n1 : Nat) (kd z u m : Int) (tx : Bs) (g1 p1 : Bool), v5 = .slice (some ⟨g, 0, none⟩) (d + 1) cap ∧ v6 = .bool x.number ∧ v7 = .int .i64 (a : Int) ∧ v10 = .int .i64 (n1 : Int) ∧ 1 ≤ n1 ∧ a + n1 ≤ l.length ∧ Hid (MInv l (a + n1) done x) ∧ Hid (Below wr.heap.size wr wx) ∧ Hid (Lies wx wr.heap.size 112 (rpartC kd tx z u m g1 p1)))
      case first =>
        cases h59 : atIs l a 59
        · rw [h59] at e59
          have H13 := Lib.hid (fun p n hp => hI.out.err13 (p := p) (n := n) hlt h59 hp)
          have H6 := Lib.hid (fun p n hp => hI.out.err6 (p := p) (n := n) hlt h59 hp)
          have HN6 := Lib.hid (fun p n hp ha => hI.out.none6 (p := p) (n := n) hlt h59 hp ha)
          have HGd := Lib.hid (fun p n x hp ha => hI.out.good (p := p) (n := n) (x := x) hlt h59 hp ha)
          have HLn := Lib.hid (fun p n hp => next_len (p := p) (n := n) hlt hp)
          have hbb : decide (done.length = 3) = b3 := by rw [HDD.out]; exact HB3.out
          rw [hbb] at HN6 HGd
          rw [HR.out] at H13 H6 HN6
          clear hbb hI
          obtain ⟨p0, p1, p2, p3, p4, p5, p6⟩ := rlies_cells HWL.out
          have RF := HWL.out
          have rf0 := RF.frozen 0
          have rf1 := RF.frozen 1
          have rf2 := RF.frozen 2
          have rf3 := RF.frozen 3
          have rf4 := RF.frozen 4
          have rf5 := RF.frozen 5
          have rf6 := RF.frozen 6
          have rlt := RF.lt
          clear RF
          generalize hq : wr.heap.size = q at *
          have HQq := Lib.hid hq
          clear hq
          have e34 := at_beq l a 34 34 rfl hlt
          cases h34 : atIs l a 34
          · rw [h34] at e34
            have e92 := at_beq l a 92 92 rfl hlt
            cases h92 : atIs l a 92
            · rw [h92] at e92
              have CP := Lib.hid (fun W' => plain31_any l[a] W')
              cases hpl : plainC l[a]
              · rw [hpl] at CP
                have e64 := at_beq l a 64 64 rfl hlt
                have e37 := at_beq l a 37 37 rfl hlt
                cases h64 : atIs l a 64
                · rw [h64] at e64
                  cases h37 : atIs l a 37
                  · rw [h37] at e37
                    obtain ⟨o1, o2⟩ := next_other hlt h34 h92 hpl h37 h64
                    have CG := Lib.hid (fun W' => general31_any l a W' hlt (by omega))
                    have CPl := Lib.hid (fun W' => places31_any l a W' hlt (by omega))
                    have hnum : ∀ (k n : Nat) (p : MP), (k = 3 ∨ k = 4) → p.kind = k → pNext (l.drop a) = (p, n, 0) → (b3 = true ∨ cur.number = true → R = .inr (a, 6)) ∧ (b3 = false → cur.number = false → ∃ x, x.number = true ∧ MInv l (a + n) done x) := fun k n p h1 h2 hp => by
                      obtain ⟨q1, q2⟩ := add34 (cur := cur) (p := p) (by rw [h2]; exact h1) b3
                      refine ⟨fun h => HN6.out p n hp (q1 h), fun g1 g2 => ?_⟩
                      obtain ⟨x, hx, hxn⟩ := q2 g1 g2
                      exact ⟨x, hxn, HGd.out p n x hp hx⟩
                    have HNum := Lib.hid hnum
                    have O1 := Lib.hid o1
                    have O2 := Lib.hid o2
                    clear o1 o2 hnum h34 h92 h37 h64 HN6 HGd H13
                    cases hg : isGen (l.drop a)
                    · rw [hg] at CG O2
                      have O3 := Lib.hid (O2.out rfl)
                      generalize hNN : pLen (l.drop a) = N at *
                      clear O1 O2 hg hNN
                      go_wp2_with fail
                      refine (CP.out _).mono ?_
                      rintro e w2 ⟨rfl, rfl⟩
                      go_wp2_with fail
                      refine (CG.out _).mono ?_
                      rintro e w2 ⟨rfl, k2, rfl⟩
                      have HWB2 := Lib.hid (below_drewN HWB.out k2)
                      have HWL2 : Hid (Lies (W.drewN k2) q 112 (rpartC 0 [] 0 0 0 false false)) := Lib.hid (Lies.below HWL.out (below_drewN (Below.refl _ _) k2))
                      have HBw2 := Lib.hid (below_drewN HBw.out k2)
                      clear p0 p1 p2 p3 p4 p5 p6 rf0 rf1 rf2 rf3 rf4 rf5 rf6 rlt HWB HWL HBw CP CG HQl
                      generalize W.drewN k2 = W2 at *
                      go_wp2_with fail
                      refine (CPl.out _).mono ?_
                      rintro e w3 ⟨kd, z, u, m, g1, p1, rfl, hb⟩
                      have HWB3 := Lib.hid (HWB2.out.trans (hb.mono (HQq.out ▸ HWB2.out.size)))
                      have HWL3 := Lib.hid (Lies.below HWL2.out hb)
                      have HBw3 := Lib.hid (HBw2.out.trans (hb.mono HBw2.out.size))
                      clear hb HWB2 HWL2 HBw2 CPl
                      have RF := HWL3.out
                      have rf0 := RF.frozen 0
                      have rf1 := RF.frozen 1
                      have rf2 := RF.frozen 2
                      have rf3 := RF.frozen 3
                      have rf4 := RF.frozen 4
                      have rf5 := RF.frozen 5
                      have rf6 := RF.frozen 6
                      have rlt := RF.lt
                      obtain ⟨p0, p1', p2, p3, p4, p5, p6⟩ := rlies_cells RF
                      clear RF
                      have hPut : Hid (Lies (((((((w3.setCell ⟨q, 0, none⟩ (.int .i64 kd)).setCell ⟨q, 1, none⟩ (.string ⟨#[]⟩)).setCell ⟨q, 2, none⟩ (.int .i64 z)).setCell ⟨q, 3, none⟩ (.int .i64 u)).setCell ⟨q, 4, none⟩ (.int .i64 m)).setCell ⟨q, 5, none⟩ (.bool g1)).setCell ⟨q, 6, none⟩ (.bool p1)) q 112 (rpartC kd [] z u m g1 p1)) := Lib.hid (((((((HWL3.out.put 0 (.int .i64 kd)).put 1 (.string ⟨#[]⟩)).put 2 (.int .i64 z)).put 3 (.int .i64 u)).put 4 (.int .i64 m)).put 5 (.bool g1)).put 6 (.bool p1))
                      have hWBp := Lib.hid (fun (hle : q ≤ q) => ((((((HWB3.out.setCell (p := ⟨q, 0, none⟩) hle (.int .i64 kd)).setCell (p := ⟨q, 1, none⟩) hle (.string ⟨#[]⟩)).setCell (p := ⟨q, 2, none⟩) hle (.int .i64 z)).setCell (p := ⟨q, 3, none⟩) hle (.int .i64 u)).setCell (p := ⟨q, 4, none⟩) hle (.int .i64 m)).setCell (p := ⟨q, 5, none⟩) hle (.bool g1)).setCell (p := ⟨q, 6, none⟩) hle (.bool p1))
                      have hBwp := Lib.hid (fun (hle : w.heap.size ≤ q) => ((((((HBw3.out.setCell (p := ⟨q, 0, none⟩) hle (.int .i64 kd)).setCell (p := ⟨q, 1, none⟩) hle (.string ⟨#[]⟩)).setCell (p := ⟨q, 2, none⟩) hle (.int .i64 z)).setCell (p := ⟨q, 3, none⟩) hle (.int .i64 u)).setCell (p := ⟨q, 4, none⟩) hle (.int .i64 m)).setCell (p := ⟨q, 5, none⟩) hle (.bool g1)).setCell (p := ⟨q, 6, none⟩) hle (.bool p1))
                      generalize hcn : cur.number = cn at *
                      clear HWB3 HWL3 HBw3 hcn
                      by_cases hN0 : N = 0
                      · have hres : Hid (R = .inr (a, 6)) := Lib.hid (by obtain ⟨p, n1, hp⟩ := O3.out.1 hN0; exact H6.out p n1 hp)
                        have b0 : ((N : Int) == 0) = true := by rw [beq_iff_eq]; omega
                        clear O3 H6 HNum HLn hN0
                        go_wp2_with fail
                        go_ret3
                        exact ⟨_, by rw [hres.out]; rfl, hBwp.out (HQq.out ▸ hS.out.bel.size)⟩
                      · obtain ⟨p, hk, hp⟩ := O3.out.2 hN0
                        have hL := HLn.out p _ hp
                        have HX := Lib.hid (HNum.out 4 N p (.inr rfl) hk hp)
                        have b0 : ((N : Int) == 0) = false := by rw [beq_eq_false_iff_ne]; omega
                        clear O3 H6 HNum HLn hN0 hp hk
                        cases b3
                        · cases cn
                          · obtain ⟨x, hxn, hM⟩ := HX.out.2 rfl rfl
                            have HM := Lib.hid hM
                            have hXn := Lib.hid hxn
                            clear HX hM hxn
                            go_wp2_with fail
                            go_meet
                            exact ⟨x, N, kd, z, u, m, [], g1, p1, rfl, by rw [hXn.out], rfl, rfl, hL.1, hL.2, HM, Lib.hid (hWBp.out (Nat.le_refl _)), hPut⟩
                          · have hres : Hid (R = .inr (a, 6)) := Lib.hid (HX.out.1 (.inr rfl))
                            clear HX
                            go_wp2_with fail
                            go_ret3
                            exact ⟨_, by rw [hres.out]; rfl, hBwp.out (HQq.out ▸ hS.out.bel.size)⟩
                        · have hres : Hid (R = .inr (a, 6)) := Lib.hid (HX.out.1 (.inl rfl))
                          clear HX
                          go_wp2_with fail
                          go_ret3
                          exact ⟨_, by rw [hres.out]; rfl, hBwp.out (HQq.out ▸ hS.out.bel.size)⟩
                    · rw [hg] at CG
                      obtain ⟨p, hk, hp⟩ := O1.out hg
                      have hL := HLn.out p _ hp
                      have HX := Lib.hid (HNum.out 3 7 p (.inl rfl) hk hp)
                      clear O1 O2 HNum HLn H6 hp hk hg CPl
                      generalize hcn : cur.number = cn at *
                      clear hcn
                      go_wp2_with fail
                      refine (CP.out _).mono ?_
                      rintro e w2 ⟨rfl, rfl⟩
                      go_wp2_with fail
                      refine (CG.out _).mono ?_
                      rintro e w2 ⟨rfl, k2, rfl⟩
                      have HWB2 := Lib.hid (below_drewN HWB.out k2)
                      have HWL2 : Hid (Lies (W.drewN k2) q 112 (rpartC 0 [] 0 0 0 false false)) := Lib.hid (Lies.below HWL.out (below_drewN (Below.refl _ _) k2))
                      have HBw2 := Lib.hid (below_drewN HBw.out k2)
                      clear p0 p1 p2 p3 p4 p5 p6 rf0 rf1 rf2 rf3 rf4 rf5 rf6 rlt HWB HWL HBw CP CG HQl
                      generalize W.drewN k2 = W2 at *
                      have p0 := HWL2.out.cell 0
                      simp only [rpartC, List.getElem?_toArray, List.getElem?_cons_zero] at p0
                      have rf0 := HWL2.out.frozen 0
                      have rlt := HWL2.out.lt
                      have hPut := Lib.hid (HWL2.out.put 0 (.int .i64 2))
                      have hWBp := Lib.hid (HWB2.out.setCell (p := ⟨q, 0, none⟩) (Nat.le_refl _) (.int .i64 2))
                      have hBwp := Lib.hid (fun (hle : w.heap.size ≤ q) => HBw2.out.setCell (p := ⟨q, 0, none⟩) hle (.int .i64 2))
                      clear HWB2 HWL2 HBw2
                      cases b3
                      · cases cn
                        · obtain ⟨x, hxn, hM⟩ := HX.out.2 rfl rfl
                          have HM := Lib.hid hM
                          have hXn := Lib.hid hxn
                          clear HX hM hxn
                          go_wp2_with fail
                          go_meet
                          exact ⟨x, 7, 2, 0, 0, 0, [], false, false, rfl, by rw [hXn.out], rfl, rfl, hL.1, hL.2, HM, hWBp, hPut⟩
                        · have hres : Hid (R = .inr (a, 6)) := Lib.hid (HX.out.1 (.inr rfl))
                          clear HX
                          go_wp2_with fail
                          go_ret3
                          exact ⟨_, by rw [hres.out]; rfl, hBwp.out (HQq.out ▸ hS.out.bel.size)⟩
                      · have hres : Hid (R = .inr (a, 6)) := Lib.hid (HX.out.1 (.inl rfl))
                        clear HX
                        go_wp2_with fail
                        go_ret3
                        exact ⟨_, by rw [hres.out]; rfl, hBwp.out (HQq.out ▸ hS.out.bel.size)⟩
                  · rw [h37] at e37
                    obtain ⟨p, hk, hp⟩ := next37 hlt h37
                    obtain ⟨q1, x, hx, hxn⟩ := add1 (cur := cur) hk
                    have hL := HLn.out p _ hp
                    have hPut := Lib.hid ((HWL.out.put 0 (.int .i64 1)).put 1 (.string ⟨#[37]⟩))
                    cases b3
                    · have hM := Lib.hid (HGd.out p _ x hp hx)
                      have hXn := Lib.hid hxn
                      clear H13 H6 HN6 HGd HLn hp hx hxn q1
                      go_wp2_with fail
                      refine (CP.out _).mono ?_
                      rintro e w2 ⟨rfl, rfl⟩
                      go_wp2_with fail
                      go_meet
                      exact ⟨x, 1, 1, 0, 0, 0, [37], false, false, rfl, by rw [hXn.out], rfl, rfl, Nat.le_refl _, hL.2, hM, Lib.hid ((HWB.out.setCell (p := ⟨q, 0, none⟩) (Nat.le_refl _) _).setCell (p := ⟨q, 1, none⟩) (Nat.le_refl _) _), hPut⟩
                    · have hres : Hid (R = .inr (a, 6)) := Lib.hid (HN6.out p _ hp q1)
                      clear H13 H6 HN6 HGd HLn hp hx hxn q1
                      go_wp2_with fail
                      refine (CP.out _).mono ?_
                      rintro e w2 ⟨rfl, rfl⟩
                      go_wp2_with fail
                      go_ret3
                      exact ⟨_, by rw [hres.out]; rfl, (HBw.out.setCell (p := ⟨q, 0, none⟩) (HQq.out ▸ hS.out.bel.size) _).setCell (p := ⟨q, 1, none⟩) (HQq.out ▸ hS.out.bel.size) _⟩
                · rw [h64] at e64
                  obtain ⟨p, hk, hp⟩ := next64 hlt h64
                  obtain ⟨q1, x, hx, hxn⟩ := add2 (cur := cur) hk
                  have hL := HLn.out p _ hp
                  have hPut := Lib.hid (HWL.out.put 0 (.int .i64 4))
                  cases b3
                  · have hres : Hid (R = .inr (a, 6)) := Lib.hid (HN6.out p _ hp q1)
                    clear H13 H6 HN6 HGd HLn hp hx hxn q1
                    go_wp2_with fail
                    refine (CP.out _).mono ?_
                    rintro e w2 ⟨rfl, rfl⟩
                    go_wp2_with fail
                    go_ret3
                    exact ⟨_, by rw [hres.out]; rfl, HBw.out.setCell (p := ⟨q, 0, none⟩) (HQq.out ▸ hS.out.bel.size) _⟩
                  · have hM := Lib.hid (HGd.out p _ x hp hx)
                    have hXn := Lib.hid hxn
                    clear H13 H6 HN6 HGd HLn hp hx hxn q1
                    go_wp2_with fail
                    refine (CP.out _).mono ?_
                    rintro e w2 ⟨rfl, rfl⟩
                    go_wp2_with fail
                    go_meet
                    exact ⟨x, 1, 4, 0, 0, 0, [], false, false, rfl, by rw [hXn.out], rfl, rfl, Nat.le_refl _, hL.2, hM, Lib.hid (HWB.out.setCell (p := ⟨q, 0, none⟩) (Nat.le_refl _) _), hPut⟩
              · rw [hpl] at CP
                obtain ⟨p, hk, hp⟩ := next_plain hlt hpl
                obtain ⟨x, hx, hxn⟩ := add0 (cur := cur) b3 hk
                have hL := HLn.out p _ hp
                have hM := Lib.hid (HGd.out p _ x hp hx)
                have hPut := Lib.hid (HWL.out.put 1 (.string ⟨(List.take 1 (List.drop a l)).toArray⟩))
                have hXn := Lib.hid hxn
                clear H13 H6 HN6 HGd HLn hp hx hxn
                go_wp2_with fail
                refine (CP.out _).mono ?_
                rintro e w2 ⟨rfl, rfl⟩
                go_wp2_with fail
                go_meet
                exact ⟨x, 1, 0, 0, 0, 0, _, false, false, rfl, by rw [hXn.out], rfl, rfl, Nat.le_refl _, hL.2, hM, Lib.hid (HWB.out.setCell (p := ⟨q, 1, none⟩) (Nat.le_refl _) _), hPut⟩
            · rw [h92] at e92
              by_cases hlt2 : a + 1 < l.length
              · obtain ⟨p, hk, hp⟩ := next92_yes hlt h92 hlt2
                obtain ⟨x, hx, hxn⟩ := add0 (cur := cur) b3 hk
                have hL := HLn.out p _ hp
                have hM := Lib.hid (HGd.out p _ x hp hx)
                have hPut := Lib.hid (HWL.out.put 1 (.string ⟨(List.take 1 (List.drop (a + 1) l)).toArray⟩))
                have hXn := Lib.hid hxn
                clear H13 H6 HN6 HGd HLn hp hx hxn
                go_wp2_with fail
                go_meet
                exact ⟨x, 2, 0, 0, 0, 0, _, false, false, rfl, by rw [hXn.out], rfl, rfl, by omega, hL.2, hM, Lib.hid (HWB.out.setCell (p := ⟨q, 1, none⟩) (Nat.le_refl _) _), hPut⟩
              · have hres : Hid (R = .inr (l.length, 13)) := Lib.hid (H13.out _ _ (next92_no hlt h92 hlt2))
                have hlt3 : ¬ (a : Int) + 1 < (l.length : Int) := by omega
                clear H13 H6 HN6 HGd HLn
                go_wp2_with fail
                go_ret3
                exact ⟨_, by rw [hres.out]; rfl, HBw.out⟩
          · rw [h34] at e34
            have HQ0 := Lib.hid (QuInv.start l a)
            clear H6 HN6
            go_wp2_with fail
            go_loop [10] (fun v => ∃ n2 : Nat, v = .int .i64 (n2 : Int) ∧ 1 ≤ n2 ∧ a + n2 ≤ l.length ∧ Hid (QuInv l a n2)) (fun v => l.length - (intOf v).toNat)
            case atStart => exact ⟨1, rfl, Nat.le_refl _, by omega, HQ0⟩
            case round =>
              obtain ⟨n2, rfl, hn2, hal2, hqi⟩ := hrel
              clear HQ0
              by_cases hk : a + n2 < l.length
              · have eq34 := at_bne l (a + n2) 34 34 rfl hk
                cases hq34 : atIs l (a + n2) 34
                · rw [hq34] at eq34
                  have hq2 := Lib.hid (hqi.out.step hn2 hq34)
                  clear hqi hq34 H13 HGd HLn
                  go_wp2_with fail
                  go_round
                  case rel => exact ⟨n2 + 1, by go_num, by omega, by omega, hq2⟩
                  case measure => simp [intOf]; omega
                · rw [hq34] at eq34
                  obtain ⟨p, hk0, hp⟩ := hqi.out.yes hlt hn2 h34 hq34
                  obtain ⟨x, hx, hxn⟩ := add0 (cur := cur) b3 hk0
                  have hL := HLn.out p _ hp
                  have hM := Lib.hid (HGd.out p _ x hp hx)
                  have hPut := Lib.hid (HWL.out.put 1 (.string ⟨(List.take (a + n2 - (a + 1)) (List.drop (a + 1) l)).toArray⟩))
                  have hXn := Lib.hid hxn
                  have hlt3 : ¬ (l.length : Int) ≤ (a : Int) + (n2 : Int) := by omega
                  clear H13 HGd HLn hp hx hxn hqi hq34 hk0
                  go_wp2_with fail
                  go_meet
                  exact ⟨x, n2 + 1, 0, 0, 0, 0, _, false, false, rfl, by rw [hXn.out], rfl, by go_num, by omega, by omega, hM, Lib.hid (HWB.out.setCell (p := ⟨q, 1, none⟩) (Nat.le_refl _) _), hPut⟩
              · have hres : Hid (R = .inr (l.length, 13)) := Lib.hid (H13.out _ _ (hqi.out.no hlt h34 hk))
                have hlt3 : (l.length : Int) ≤ (a : Int) + (n2 : Int) := by omega
                clear H13 HGd HLn hqi
                go_wp2_with fail
                go_ret3
                exact ⟨_, by rw [hres.out]; rfl, HBw.out⟩
        · rw [h59] at e59
          cases b3
          · have hd3 : done.length ≠ 3 := by rw [HDD.out]; exact of_decide_eq_false HB3.out
            have hI2 := Lib.hid (hI.out.semi hlt h59 hd3)
            have hdl : Hid ((done ++ [cur]).length = d + 1) := Lib.hid (by rw [List.length_append, HDD.out]; rfl)
            obtain ⟨i0, hi, hz0, hz1, hz2⟩ := info_parts infoRS
            have hSA := Lib.hid ((hS.out.next HWB.out).next (w' := W.alloc (.cells #[.slice none 0 0] 117)) ((Below.refl _ _).alloc (Nat.le_refl _) _))
            have hWs : w.heap.size ≤ W.heap.size := HBw.out.size
            have HWs := Lib.hid hWs
            clear hI HWB HWL HQl HBw hd3 hWs
            go_wp2_with (at_builtin; refine wpList_append_lies _ rfl (.tmp 53) (.tmp 54) 52 rfl w.heap.size 117 i0 _ 1 24 Tryd.underlying52 hi hz0 hz1 hz2 rfl (by decide) (.slice (some ⟨g, 0, none⟩) (d + 1) cap) (d + 1) (xs ++ [sv]) rfl hSA.out.list ⟨W.heap.size, 0, none⟩ 1 1 [.slice none 0 0] rfl rfl (World.news_of_block (cs := #[.slice none 0 0]) (t := 117) (fr := (0, 0)) (heap_alloc_new W _)) ?c1 (by decide) ?c3 ?c4 ?c5 (W.heap.size + 1) (by simp) ?_)
            case c1 =>
              intro u hu
              simp at hu
              rcases hu with rfl
              rfl
            case c3 => unfold maxLen; omega
            case c4 => omega
            case c5 => have := HWs.out; simp; omega
            intro g2 cap2 w1 hown hgrow _ _
            have hS2 := Lib.hid (hSA.out.semi (by rw [List.append_assoc]; exact hown) hgrow)
            clear hown hgrow hSA hS
            go_wp2_with fail
            go_roundg (l.length - (a + 1))
            case rel => exact ⟨a + 1, done ++ [cur], ms0, g2, cap2, 0, _, [], _, by go_num, by rw [hdl.out], rfl, rfl, Nat.zero_le _, hI2, by rw [hdl.out]; exact hS2⟩
            case measure => omega
          · have hres : Hid (R = .inr (a, 10)) := Lib.hid (by rw [← HR.out]; exact hI.out.full hlt h59 (by rw [HDD.out]; exact of_decide_eq_true HB3.out))
            clear hI
            go_wp2_with fail
            go_ret3
            exact ⟨_, by rw [hres.out]; rfl, HBw.out⟩
      case rest =>
        obtain ⟨x, n1, kd, z, u, m, tx, g1, p1, rfl, rfl, rfl, rfl, hn1, han, hM, hBx, hLx⟩ := hcut
        obtain ⟨i0, hi, hz0, hz1, hz2⟩ := info_parts infoRP
        have hbn : Below wc.heap.size wc ((wc.alloc (.cells #[.int .i64 kd, .string ⟨tx.toArray⟩, .int .i64 z, .int .i64 u, .int .i64 m, .bool g1, .bool p1] 112)).drew) := ((Below.refl _ _).alloc (Nat.le_refl _) _).drew
        have HS1 := Lib.hid (hS.out.next hBx.out)
        have HS2 := Lib.hid (HS1.out.next hbn)
        obtain ⟨c0, f0⟩ := HS1.out.cell
        obtain ⟨p0, p1', p2, p3, p4, p5, p6⟩ := rlies_cells hLx.out
        have HBig : Hid (w.heap.size ≤ ((wc.alloc (.cells #[.int .i64 kd, .string ⟨tx.toArray⟩, .int .i64 z, .int .i64 u, .int .i64 m, .bool g1, .bool p1] 112)).drew).heap.size) := Lib.hid HS2.out.bel.size
        have hglt := HS1.out.lt
        have hwlt := hLx.out.lt
        have H63 : Hid (n + 1 ≤ maxLen) := Lib.hid (by unfold maxLen; omega)
        have H47 : Hid ((n + 1) * 56 ≤ 140737488355328) := Lib.hid (by omega)
        have w2' : IntKind.i64.wrap (d : Int) = (d : Int) := IntWalk.i64_in _ (by omega)
        have w3' : (0 : Int) ≤ (d : Int) := by omega
        have w4' : (d : Int) < (d : Int) + 1 := by omega
        clear hbn hS hI HWB HWL HQl HBw HR e59 hBx hLx HS1
        go_wp2_with fail
        go_region_law (refine step_append_lies _ (by rfl) _ _ _ (by rfl) w.heap.size 112 i0 _ 7 56 Tryd.underlying117 hi hz0 hz1 hz2 rfl (by decide) sv n ys (by rfl) HS2.out.row ⟨wc.heap.size, 0, none⟩ 1 1 [.int .i64 kd, .string ⟨tx.toArray⟩, .int .i64 z, .int .i64 u, .int .i64 m, .bool g1, .bool p1] (by rfl) (by rfl) (World.news_of_block (cs := #[.int .i64 kd, .string ⟨tx.toArray⟩, .int .i64 z, .int .i64 u, .int .i64 m, .bool g1, .bool p1]) (t := 112) (fr := (0, 0)) (heap_alloc_new wc _)) (rp_one kd z u m tx g1 p1) (by decide) H63.out H47.out HBig.out (wc.heap.size + 1) (by simp) ?_; intro gg cap2 w1 hown1 hgrow hat hlt1; have hta := OSt.after HS2.out hgrow; have e0 := hta.1; have e1 := hta.2; have HMo := Lib.hid (OSt.more HS2.out hown1 hgrow); clear hown1 hgrow hat hlt1 hta)
        all_goals
          go_wp2_with fail
          go_roundg (l.length - (a + n1))
          case rel => exact ⟨a + n1, done, x, g, cap, n + 1, xs, _, _, by go_num, by rw [HDD.out], rfl, rfl, by omega, hM, by rw [HDD.out]; exact HMo⟩
          case measure => omega
    · have hres : Hid (R = .inl (done ++ [cur])) := Lib.hid (by rw [← HR.out]; exact hI.out.done hlt)
      have HB := Lib.hid hS.out.bel
      clear hI hS
      go_wp2_with fail
      go_ret3
      exact ⟨_, by rw [hres.out]; rfl, HB.out⟩
end Go.Proofs.YteccjdclkcipbaaDoor
