/-
  value.Read: what it returns.
-/
import Derived.Test.YteccjdclkcipbaaDoorNum9
import Derived.Test.YteccjdclkcipbaaDoorVal6
namespace Go.Proofs.YteccjdclkcipbaaDoor
open Go.RowKit

def yesB : Bs := [84, 82, 85, 69]
def noB : Bs := [70, 65, 76, 83, 69]
def vWord (l : Bs) : Val := if pFold l == yesB then vTruth true else if pFold l == noB then vTruth false else if pFaultNo l ≠ 0 then vBad (pFaultNo l) else vText l
def vRead (l : Bs) : Val := if l = [] then zeroVal else match pParse l with | some q => vNumber q.1 q.2 | none => vWord l
set_option maxRecDepth 100000 in
set_option maxHeartbeats 3200000 in
theorem read_any (l : Bs) (w : World) (hl : l.length ≤ 1000000) (ht : Tab w) :
    Calls Tryd.prog 23 #[.string ⟨l.toArray⟩] w fun x w' => x = .returned (valV (vRead l)) ∧ Below w.heap.size w w' := by
  have hN : vRead l = if l = [] then zeroVal else match pParse l with | some q => vNumber q.1 q.2 | none => vWord l := rfl
  have hW : vWord l = if pFold l == yesB then vTruth true else if pFold l == noB then vTruth false else if pFaultNo l ≠ 0 then vBad (pFaultNo l) else vText l := rfl
  have HN := Lib.hid hN
  have HW := Lib.hid hW
  have hlm : l.length ≤ maxLen := by unfold maxLen; omega
  have HLM := Lib.hid hlm
  have HT0 := Lib.hid ht
  have HL0 := Lib.hid (Lies.new w 27 (valC zeroVal))
  have HB0 := Lib.hid ((Below.refl _ w).alloc (Nat.le_refl _) (.cells (valC zeroVal) 27))
  have HT1 : Hid (Tab (w.alloc (.cells (valC zeroVal) 27))) := Lib.hid (ht.alloc _)
  clear hN hW hlm ht
  generalize vRead l = out at *
  cases l with
  | nil =>
    rw [if_pos rfl] at HN
    go_enter Tryd.func23, Tryd.ntmps23
    go_wp2_with fail
    refine bodyPost_ret (v := .agg #[.int .i64 0, .int .i64 0, .int .i64 0, .string ⟨#[]⟩, .bool false, .int .i64 0]) (by simp [results, Tryd.results23, go_sem]) rfl ?_
    exact ⟨by rw [HN.out]; rfl, HB0.out⟩
  | cons c l =>
    rw [if_neg (by simp)] at HN
    have hem : ((c :: l) == []) = false := rfl
    generalize c :: l = s at *
    go_enter Tryd.func23, Tryd.ntmps23
    go_wp2_with fail
    refine (parse_any s _ hl).mono ?_
    rintro e w1 ⟨rfl, hb1⟩
    have HL1 := Lib.hid (HL0.out.next hb1)
    have HT2 := Lib.hid (HT1.out.next hb1)
    have HB1 : Hid (Below w.heap.size w w1) := Lib.hid (HB0.out.trans (hb1.mono HB0.out.size))
    clear hb1 HB0 HL0 HT1 HT0
    cases hp : pParse s with
    | some q =>
      obtain ⟨m, g⟩ := q
      rw [hp] at HN
      unfold numOut
      have HL2 := Lib.hid (HL1.out.alloc (.cells #[.int .i64 m, .int .i64 g] 23))
      have HB2 := Lib.hid (HB1.out.alloc HB1.out.size (.cells #[.int .i64 m, .int .i64 g] 23))
      clear hp
      go_wp2_with fail
      refine (of_any m g _).mono ?_
      rintro e w2 ⟨rfl, hb2⟩
      obtain ⟨z0, z1, z2, z3, z4, z5, y0, y1, y2, y3, y4, y5⟩ := (HL2.out.next hb2).six
      have HB3 : Hid (Below w.heap.size w w2) := Lib.hid (HB2.out.trans (hb2.mono HB2.out.size))
      clear hb2
      unfold vNumber
      go_wp2_with fail
      refine bodyPost_ret (v := .agg #[.int .i64 1, .int .i64 m, .int .i64 g, .string ⟨#[]⟩, .bool false, .int .i64 0]) (by simp [results, Tryd.results23, go_sem, z0, z1, z2, z3, z4, z5]) rfl ?_
      exact ⟨by rw [HN.out]; rfl, put6_below ⟨1, m, g, [], false, 0⟩ HB3.out (Nat.le_refl _)⟩
    | none =>
      rw [hp] at HN
      unfold numOut
      have HL2 := Lib.hid (HL1.out.alloc (.cells #[.int .i64 0, .int .i64 0] 23))
      have HB2 := Lib.hid (HB1.out.alloc HB1.out.size (.cells #[.int .i64 0, .int .i64 0] 23))
      have HT3 := Lib.hid (HT2.out.alloc (.cells #[.int .i64 0, .int .i64 0] 23))
      clear hp HL1 HB1 HT2
      go_wp2_with fail
      refine (fold_any s _ HLM.out).mono ?_
      rintro e w2 ⟨rfl, hb2⟩
      have HL3 := Lib.hid (HL2.out.next hb2)
      have HT4 := Lib.hid (HT3.out.next hb2)
      have HB3 : Hid (Below w.heap.size w w2) := Lib.hid (HB2.out.trans (hb2.mono HB2.out.size))
      clear hb2 HL2 HB2 HT3
      generalize pFold s = u at *
      cases hy : (u == yesB)
      · rw [hy, if_neg (by decide)] at HW
        have ey : (u == [84, 82, 85, 69]) = false := hy
        cases hno : (u == noB)
        · rw [hno, if_neg (by decide)] at HW
          have en : (u == [70, 65, 76, 83, 69]) = false := hno
          clear hy hno
          go_wp2_with fail
          refine (valFaultOf_any s _ HLM.out HT4.out).mono ?_
          rintro e w3 ⟨rfl, hb3⟩
          have HL4 := Lib.hid (HL3.out.next hb3)
          have HB4 : Hid (Below w.heap.size w w3) := Lib.hid (HB3.out.trans (hb3.mono HB3.out.size))
          clear hb3 HL3 HB3
          generalize pFaultNo s = fn at *
          by_cases h0 : fn = 0
          · rw [if_neg (fun h => h h0)] at HW
            subst h0
            go_wp2_with fail
            refine (text_any s _ hl).mono ?_
            rintro e w4 ⟨rfl, hb4⟩
            obtain ⟨z0, z1, z2, z3, z4, z5, y0, y1, y2, y3, y4, y5⟩ := (HL4.out.next hb4).six
            have HB5 : Hid (Below w.heap.size w w4) := Lib.hid (HB4.out.trans (hb4.mono HB4.out.size))
            clear hb4
            generalize vText s = r at *
            obtain ⟨k, m, x, t, tr, f⟩ := r
            go_wp2_with fail
            refine bodyPost_ret (v := .agg #[.int .i64 k, .int .i64 m, .int .i64 x, .string ⟨t.toArray⟩, .bool tr, .int .i64 f]) (by simp [results, Tryd.results23, go_sem, z0, z1, z2, z3, z4, z5]) rfl ?_
            exact ⟨by rw [HN.out, HW.out], put6_below ⟨k, m, x, t, tr, f⟩ HB5.out (Nat.le_refl _)⟩
          · rw [if_pos h0] at HW
            have bn : ((fn : Int) != 0) = true := by rw [bne_iff_ne]; omega
            clear h0
            go_wp2_with fail
            refine (bad_any (fn : Int) _).mono ?_
            rintro e w4 ⟨rfl, hb4⟩
            obtain ⟨z0, z1, z2, z3, z4, z5, y0, y1, y2, y3, y4, y5⟩ := (HL4.out.next hb4).six
            have HB5 : Hid (Below w.heap.size w w4) := Lib.hid (HB4.out.trans (hb4.mono HB4.out.size))
            clear hb4
            generalize vBad (fn : Int) = r at *
            obtain ⟨k, m, x, t, tr, f⟩ := r
            go_wp2_with fail
            refine bodyPost_ret (v := .agg #[.int .i64 k, .int .i64 m, .int .i64 x, .string ⟨t.toArray⟩, .bool tr, .int .i64 f]) (by simp [results, Tryd.results23, go_sem, z0, z1, z2, z3, z4, z5]) rfl ?_
            exact ⟨by rw [HN.out, HW.out], put6_below ⟨k, m, x, t, tr, f⟩ HB5.out (Nat.le_refl _)⟩
        · rw [hno, if_pos rfl] at HW
          have en : (u == [70, 65, 76, 83, 69]) = true := hno
          clear hy hno
          go_wp2_with fail
          refine (truth_any false _).mono ?_
          rintro e w4 ⟨rfl, hb4⟩
          obtain ⟨z0, z1, z2, z3, z4, z5, y0, y1, y2, y3, y4, y5⟩ := (HL3.out.next hb4).six
          have HB5 : Hid (Below w.heap.size w w4) := Lib.hid (HB3.out.trans (hb4.mono HB3.out.size))
          clear hb4
          unfold vTruth
          go_wp2_with fail
          refine bodyPost_ret (v := .agg #[.int .i64 3, .int .i64 0, .int .i64 0, .string ⟨#[]⟩, .bool false, .int .i64 0]) (by simp [results, Tryd.results23, go_sem, z0, z1, z2, z3, z4, z5]) rfl ?_
          exact ⟨by rw [HN.out, HW.out]; rfl, put6_below ⟨3, 0, 0, [], false, 0⟩ HB5.out (Nat.le_refl _)⟩
      · rw [hy, if_pos rfl] at HW
        have ey : (u == [84, 82, 85, 69]) = true := hy
        clear hy
        go_wp2_with fail
        refine (truth_any true _).mono ?_
        rintro e w4 ⟨rfl, hb4⟩
        obtain ⟨z0, z1, z2, z3, z4, z5, y0, y1, y2, y3, y4, y5⟩ := (HL3.out.next hb4).six
        have HB5 : Hid (Below w.heap.size w w4) := Lib.hid (HB3.out.trans (hb4.mono HB3.out.size))
        clear hb4
        unfold vTruth
        go_wp2_with fail
        refine bodyPost_ret (v := .agg #[.int .i64 3, .int .i64 0, .int .i64 0, .string ⟨#[]⟩, .bool true, .int .i64 0]) (by simp [results, Tryd.results23, go_sem, z0, z1, z2, z3, z4, z5]) rfl ?_
        exact ⟨by rw [HN.out, HW.out]; rfl, put6_below ⟨3, 0, 0, [], true, 0⟩ HB5.out (Nat.le_refl _)⟩
end Go.Proofs.YteccjdclkcipbaaDoor
