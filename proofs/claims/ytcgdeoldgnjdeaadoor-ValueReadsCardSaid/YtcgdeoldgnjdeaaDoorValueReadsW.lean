/-
  counterpanelaw02.ValueReads: the walk.
-/
import Derived.Test.YtcgdeoldgnjdeaaDoorRefB4
import Derived.Test.YtcgdeoldgnjdeaaDoorVal8
import Derived.Test.YtcgdeoldgnjdeaaDoorVal9
namespace Go.Proofs.YtcgdeoldgnjdeaaDoor
open Go.RowKit

set_option maxRecDepth 100000 in
set_option maxHeartbeats 6400000 in
theorem valueReads_any (s : Bs) (w : World) (ht : Tab w) :
    Calls Tryd.prog 7 #[.string ⟨s.toArray⟩] w fun e w' => e = .returned (.bool true) ∧ Below w.heap.size w w' := by
  have HT := Lib.hid ht
  clear ht
  go_enter Tryd.func7, Tryd.ntmps7
  go_wp2_with fail
  refine (awake02_any _ HT.out).mono ?_
  rintro e w1 ⟨rfl, hb⟩
  have HB1 := Lib.hid hb
  have HT1 : Hid (Tab w1) := Lib.hid (HT.out.next hb)
  clear hb HT
  by_cases h1 : 300 < s.length
  · go_wp2_with fail
    refine (awake02_any _ HT1.out).mono ?_
    rintro e w2 ⟨rfl, hb⟩
    have HB2 : Hid (Below w.heap.size w w2) := Lib.hid (HB1.out.trans (hb.mono HB1.out.size))
    clear hb
    go_wp2_with fail
    go_ret
    exact ⟨rfl, HB2.out⟩
  have hl : s.length ≤ 1000000 := by omega
  have HM : Hid (s.length ≤ maxLen) := Lib.hid (by unfold maxLen; omega)
  have c1 := Lib.hid (fun W h => read_any s W hl h)
  have c2 := Lib.hid (fun W => rread_any s W hl)
  have c3 := Lib.hid (fun W => fold_any s W HM.out)
  have c4 := Lib.hid (fun W => rfold_any s W hl)
  have c5 := Lib.hid (fun W h => valFaultOf_any s W HM.out h)
  have c6 := Lib.hid (fun W => rfaultOf_any s W hl)
  have c7 := Lib.hid (fun W => rSame_any (vRead s) (vRead s) W)
  rw [vSame_self] at c7
  have hnn : (pFold s == pFold s) = true := by simp
  have hff : ((pFaultNo s : Int) == (pFaultNo s : Int)) = true := by simp
  generalize vRead s = r at *
  generalize pFold s = f at *
  generalize pFaultNo s = n at *
  go_wp2_with fail
  refine (c1.out _ HT1.out).mono ?_
  rintro e w2 ⟨rfl, hb⟩
  have HB2 : Hid (Below w.heap.size w w2) := Lib.hid (HB1.out.trans (hb.mono HB1.out.size))
  have HT2 : Hid (Tab w2) := Lib.hid (HT1.out.next hb)
  clear hb HB1 HT1
  go_wp2_with fail
  refine (c2.out _).mono ?_
  rintro e w3 ⟨rfl, hb⟩
  have HB3 : Hid (Below w.heap.size w w3) := Lib.hid (HB2.out.trans (hb.mono HB2.out.size))
  have HT3 : Hid (Tab w3) := Lib.hid (HT2.out.next hb)
  clear hb HB2 HT2
  go_wp2_with fail
  refine (c7.out _).mono ?_
  rintro e w4 ⟨rfl, hb⟩
  have HB4 : Hid (Below w.heap.size w w4) := Lib.hid (HB3.out.trans (hb.mono HB3.out.size))
  have HT4 : Hid (Tab w4) := Lib.hid (HT3.out.next hb)
  clear hb HB3 HT3
  go_wp2_with fail
  refine (c3.out _).mono ?_
  rintro e w5 ⟨rfl, hb⟩
  have HB5 : Hid (Below w.heap.size w w5) := Lib.hid (HB4.out.trans (hb.mono HB4.out.size))
  have HT5 : Hid (Tab w5) := Lib.hid (HT4.out.next hb)
  clear hb HB4 HT4
  go_wp2_with fail
  refine (c4.out _).mono ?_
  rintro e w6 ⟨rfl, hb⟩
  have HB6 : Hid (Below w.heap.size w w6) := Lib.hid (HB5.out.trans (hb.mono HB5.out.size))
  have HT6 : Hid (Tab w6) := Lib.hid (HT5.out.next hb)
  clear hb HB5 HT5
  go_wp2_with fail
  refine (c5.out _ HT6.out).mono ?_
  rintro e w7 ⟨rfl, hb⟩
  have HB7 : Hid (Below w.heap.size w w7) := Lib.hid (HB6.out.trans (hb.mono HB6.out.size))
  clear hb HB6 HT6
  go_wp2_with fail
  refine (c6.out _).mono ?_
  rintro e w8 ⟨rfl, hb⟩
  have HB8 : Hid (Below w.heap.size w w8) := Lib.hid (HB7.out.trans (hb.mono HB7.out.size))
  clear hb HB7
  go_wp2_with fail
  go_ret
  exact ⟨rfl, HB8.out⟩
end Go.Proofs.YtcgdeoldgnjdeaaDoor
