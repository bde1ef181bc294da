/-
  counterpanelaw05.LexTells: the walk.
-/
import Derived.Test.YtcgdeoldgnjdeaaDoorRef8
namespace Go.Proofs.YtcgdeoldgnjdeaaDoor
open Go.RowKit

set_option maxRecDepth 100000 in
set_option maxHeartbeats 1600000 in
theorem lexTells_any (s : Bs) (w : World) (ht : Tab w) :
    Calls Tryd.prog 3 #[.string ⟨s.toArray⟩] w fun e w' => e = .returned (.bool true) ∧ Below w.heap.size w w' := by
  have HT := Lib.hid ht
  clear ht
  go_enter Tryd.func3, Tryd.ntmps3
  go_wp2_with fail
  refine (awake_any _ HT.out).mono ?_
  rintro e w1 ⟨rfl, hb1⟩
  have HB1 := Lib.hid hb1
  have HT1 : Hid (Tab w1) := Lib.hid (HT.out.next hb1)
  clear hb1
  by_cases h1 : 200 < s.length
  · go_wp2_with fail
    refine (awake_any _ HT1.out).mono ?_
    rintro e w2 ⟨rfl, hb2⟩
    have HB2 : Hid (Below w.heap.size w w2) := Lib.hid (HB1.out.trans (hb2.mono HB1.out.size))
    clear hb2
    go_wp2_with fail
    go_ret
    exact ⟨rfl, HB2.out⟩
  · have hs : s.length ≤ 1000000 := by omega
    go_wp2_with fail
    cases hp : pLex s with
    | error k =>
      refine (lex_bad s k _ hs HT1.out hp).mono ?_
      rintro e w2 ⟨rfl, hb2⟩
      have HB2 : Hid (Below w.heap.size w w2) := Lib.hid (HB1.out.trans (hb2.mono HB1.out.size))
      clear hb2
      go_wp2_with fail
      refine (rlex_any s _ hs).mono ?_
      intro e w3 hpo
      rw [hp] at hpo
      obtain ⟨rfl, hb3⟩ := hpo
      have HB3 : Hid (Below w.heap.size w w3) := Lib.hid (HB2.out.trans (hb3.mono HB2.out.size))
      clear hb3 hp
      go_wp2_with fail
      go_ret
      exact ⟨rfl, HB3.out⟩
    | ok ts =>
      have hlen : ts.length + 1 ≤ 1000000 := by have := pLex_len s ts hp; omega
      refine (lex_ok s ts _ hs HT1.out hp).mono ?_
      rintro e w2 ⟨g, cap, rfl, hown, hb2⟩
      have HB2 : Hid (Below w.heap.size w w2) := Lib.hid (HB1.out.trans (hb2.mono HB1.out.size))
      have T2 : Hid (TokIn w2 (some ⟨g, 0, none⟩) (ts ++ [endTok s.length])) := Lib.hid (tokIn_own (by simpa using hown))
      clear hb2 hown
      go_wp2_with fail
      refine (rlex_any s _ hs).mono ?_
      intro e w3 hpo
      rw [hp] at hpo
      obtain ⟨v, rfl, hown3, hb3⟩ := hpo
      obtain ⟨A3, c3, rfl⟩ := own_slice hown3
      have HB3 : Hid (Below w.heap.size w w3) := Lib.hid (HB2.out.trans (hb3.mono HB2.out.size))
      have T3 : Hid (TokIn w3 (some ⟨g, 0, none⟩) (ts ++ [endTok s.length])) := Lib.hid (T2.out.next hb3)
      have U3 : Hid (TokIn w3 A3 (ts ++ [endTok s.length])) := Lib.hid (tokIn_own (cap := c3) (by simpa using hown3))
      have hl : Hid ((ts ++ [endTok s.length]).length = ts.length + 1) := Lib.hid (by simp)
      clear hb3 hown3 hp
      go_wp2_with fail
      refine (of_at _ _ _ (ts ++ [endTok s.length]) _ hl.out hlen T3.out).mono ?_
      rintro e w4 ⟨A4, c4, rfl, t4, hb4⟩
      have HB4 : Hid (Below w.heap.size w w4) := Lib.hid (HB3.out.trans (hb4.mono HB3.out.size))
      have T4 := Lib.hid t4
      have U4 := Lib.hid (U3.out.next hb4)
      clear hb4 t4
      go_wp2_with fail
      refine (same_at A4 A3 (ts.length + 1) c4 c3 (ts ++ [endTok s.length]) (ts ++ [endTok s.length]) true _ hl.out hl.out hlen T4.out U4.out (SameToks.refl _ _)).mono ?_
      rintro e w5 ⟨rfl, hb5⟩
      have HB5 : Hid (Below w.heap.size w w5) := Lib.hid (HB4.out.trans (hb5.mono HB4.out.size))
      clear hb5
      go_wp2_with fail
      go_ret
      exact ⟨rfl, HB5.out⟩
end Go.Proofs.YtcgdeoldgnjdeaaDoor
