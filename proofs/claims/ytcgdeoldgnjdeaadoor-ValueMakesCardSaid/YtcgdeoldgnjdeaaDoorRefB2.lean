/-
  counterpaneref02.Text, Bad, Truth, Number: what they return.
-/
import Derived.Test.YtcgdeoldgnjdeaaDoorVal6
namespace Go.Proofs.YtcgdeoldgnjdeaaDoor
open Go.RowKit

set_option maxHeartbeats 400000 in
theorem rof_any (m e : Int) (w : World) :
    Calls Tryd.prog 70 #[numV m e] w fun x w' => x = .returned (valV (vNumber m e)) ∧ Below w.heap.size w w' := by
  go_enter Tryd.func70, Tryd.ntmps70
  go_wp2
  refine bodyPost_ret (v := .agg #[.int .i64 1, .int .i64 m, .int .i64 e, .string ⟨#[]⟩, .bool false, .int .i64 0]) (by simp [results, Tryd.results70, go_sem]) rfl ?_
  exact ⟨rfl, ((Below.refl _ w).alloc (Nat.le_refl _) _).alloc (by simp) _⟩
set_option maxHeartbeats 400000 in
theorem rtruth_any (b : Bool) (w : World) :
    Calls Tryd.prog 44 #[.bool b] w fun x w' => x = .returned (valV (vTruth b)) ∧ Below w.heap.size w w' := by
  go_enter Tryd.func44, Tryd.ntmps44
  go_wp2
  refine bodyPost_ret (v := .agg #[.int .i64 3, .int .i64 0, .int .i64 0, .string ⟨#[]⟩, .bool b, .int .i64 0]) (by simp [results, Tryd.results44, go_sem]) rfl ?_
  exact ⟨rfl, (Below.refl _ w).alloc (Nat.le_refl _) _⟩
set_option maxHeartbeats 800000 in
theorem rbad_any (f : Int) (w : World) :
    Calls Tryd.prog 42 #[.int .i64 f] w fun x w' => x = .returned (valV (vBad f)) ∧ Below w.heap.size w w' := by
  have hN : vBad f = ⟨4, 0, 0, [], false, if f < 1 ∨ 9 < f then 9 else f⟩ := rfl
  have HN := Lib.hid hN
  clear hN
  generalize vBad f = r at *
  by_cases h1 : f < 1
  · rw [if_pos (.inl h1)] at HN
    go_enter Tryd.func42, Tryd.ntmps42
    go_wp2
    refine bodyPost_ret (v := .agg #[.int .i64 4, .int .i64 0, .int .i64 0, .string ⟨#[]⟩, .bool false, .int .i64 9]) (by simp [results, Tryd.results42, go_sem]) rfl ?_
    exact ⟨by rw [HN.out], (Below.refl _ w).alloc (Nat.le_refl _) _⟩
  by_cases h2 : 9 < f
  · rw [if_pos (.inr h2)] at HN
    go_enter Tryd.func42, Tryd.ntmps42
    go_wp2
    refine bodyPost_ret (v := .agg #[.int .i64 4, .int .i64 0, .int .i64 0, .string ⟨#[]⟩, .bool false, .int .i64 9]) (by simp [results, Tryd.results42, go_sem]) rfl ?_
    exact ⟨by rw [HN.out], (Below.refl _ w).alloc (Nat.le_refl _) _⟩
  rw [if_neg (by omega)] at HN
  go_enter Tryd.func42, Tryd.ntmps42
  go_wp2
  refine bodyPost_ret (v := .agg #[.int .i64 4, .int .i64 0, .int .i64 0, .string ⟨#[]⟩, .bool false, .int .i64 f]) (by simp [results, Tryd.results42, go_sem]) rfl ?_
  exact ⟨by rw [HN.out], (Below.refl _ w).alloc (Nat.le_refl _) _⟩
set_option maxHeartbeats 800000 in
theorem rtext_any (l : Bs) (w : World) (hl : l.length ≤ 1000000) :
    Calls Tryd.prog 40 #[.string ⟨l.toArray⟩] w fun x w' => x = .returned (valV (vText l)) ∧ Below w.heap.size w w' := by
  have hN : vText l = if 255 < l.length then vBad 2 else ⟨2, 0, 0, l, false, 0⟩ := rfl
  have HN := Lib.hid hN
  clear hN
  generalize vText l = r at *
  by_cases h1 : 255 < l.length
  · rw [if_pos h1] at HN
    have hL := Lib.hid (Lies.new w 41 (valC zeroVal))
    have HB := Lib.hid ((Below.refl _ w).alloc (Nat.le_refl _) (.cells (valC zeroVal) 41))
    go_enter Tryd.func40, Tryd.ntmps40
    go_wp2_with fail
    refine (rbad_any 2 _).mono ?_
    rintro e w1 ⟨rfl, hb⟩
    obtain ⟨z0, z1, z2, z3, z4, z5, y0, y1, y2, y3, y4, y5⟩ := (hL.out.next hb).six
    have HB1 : Hid (Below w.heap.size w w1) := Lib.hid (HB.out.trans (hb.mono HB.out.size))
    clear hb
    unfold vBad
    go_wp2_with fail
    refine bodyPost_ret (v := .agg #[.int .i64 4, .int .i64 0, .int .i64 0, .string ⟨#[]⟩, .bool false, .int .i64 2]) (by simp [results, Tryd.results40, go_sem, z0, z1, z2, z3, z4, z5]) rfl ?_
    exact ⟨by rw [HN.out]; rfl, put6_below ⟨4, 0, 0, [], false, 2⟩ HB1.out (Nat.le_refl _)⟩
  · rw [if_neg h1] at HN
    go_enter Tryd.func40, Tryd.ntmps40
    go_wp2_with fail
    refine bodyPost_ret (v := .agg #[.int .i64 2, .int .i64 0, .int .i64 0, .string ⟨l.toArray⟩, .bool false, .int .i64 0]) (by simp [results, Tryd.results40, go_sem]) rfl ?_
    exact ⟨by rw [HN.out], (Below.refl _ w).alloc (Nat.le_refl _) _⟩
end Go.Proofs.YtcgdeoldgnjdeaaDoor
