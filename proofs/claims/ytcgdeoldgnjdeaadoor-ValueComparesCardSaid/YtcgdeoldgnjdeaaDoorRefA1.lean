/-
  counterpaneref01.digits: what it returns.
-/
import Derived.Test.YtcgdeoldgnjdeaaDoorApp1
import Derived.Test.YtcgdeoldgnjdeaaDoorPlainE
import Derived.Test.YtcgdeoldgnjdeaaDoorNum3
namespace Go.Proofs.YtcgdeoldgnjdeaaDoor
open Go.RowKit

def intV (d : Nat) : Value := .int .i64 (d : Int)
theorem infoI64 : (Tryd.prog.info? 3).map (fun i => (i.zero, i.size, i.bytes)) = some (some (.int .i64 0), 1, 8) := by kernel_rfl
theorem ints_one (L : List Nat) : ∀ u ∈ L.map intV, u.oneCell' = true := by
  intro u hu
  rw [List.mem_map] at hu
  obtain ⟨d, _, rfl⟩ := hu
  rfl
/-- a slice of the call's own that holds digits -/
def Own (w : World) (base : Nat) (v : Value) (L : List Nat) : Prop := w.ownsRow base 3 1 v L.length (L.map intV)
theorem Own.slice {w : World} {base : Nat} {v : Value} {L : List Nat} (h : Own w base v L) : ∃ A c, v = .slice A L.length c ∧ Src w A (L.map intV) ∧ (∀ ad, A = some ad → base ≤ ad.block ∧ ad.block < w.heap.size) := by
  rcases h.2 with ⟨rfl, h0⟩ | ⟨g, cap, cur, rfl, hg, hh, _⟩
  · refine ⟨none, 0, by rw [h0], ?_, fun ad e => by cases e⟩
    have : L = [] := List.eq_nil_of_length_eq_zero h0
    subst this
    exact Src.nil _ _
  · exact ⟨some ⟨g, 0, none⟩, cap, rfl, Src.own h, fun ad e => by injection e with e; subst e; exact ⟨hg, (Array.getElem?_eq_some_iff.1 hh).1⟩⟩
theorem fresh_own (w : World) (u : Value) (base : Nat) (h : base ≤ w.heap.size) (n : Nat) (hn : n = w.heap.size) : (w.alloc (.cells #[u] 3)).ownsRow base 3 1 (.slice (some ⟨n, 0, none⟩) 1 1) 1 [u] := by
  subst hn
  refine ⟨rfl, .inr ⟨w.heap.size, 1, #[u], rfl, h, Lies.new _ _ _, Nat.le_refl _, by decide, rfl, rfl⟩⟩
set_option maxRecDepth 100000 in
set_option maxHeartbeats 1600000 in
theorem digits_any (n : Int) (w : World) (h1 : -9223372036854775808 ≤ n) (h2 : n ≤ 9223372036854775807) :
    Calls Tryd.prog 142 #[.int .i64 n] w fun e w' => ∃ v, e = .returned v ∧ Own w' w.heap.size v (dl n.natAbs) ∧ Below w.heap.size w w' := by
  obtain ⟨i0, hi, hz0, hz1, hz2⟩ := info_parts infoI64
  have hlen : (dl n.natAbs).length ≤ 20 := dl_len_le _ (by omega)
  have HLen := Lib.hid hlen
  clear hlen
  generalize hD : dl n.natAbs = D at *
  have HD := Lib.hid hD
  clear hD
  go_enter Tryd.func142, Tryd.ntmps142
  go_wp2_with fail
  go_loopw [0, 3] (fun x v wr => ∃ (m : Int) (L : List Nat), x = .int .i64 m ∧ -9223372036854775808 ≤ m ∧ m ≤ 9223372036854775807 ∧ Hid (Own wr w.heap.size v L) ∧ Hid (dl m.natAbs ++ L = D) ∧ Hid (Below w.heap.size w wr)) (fun x _ _ => (intOf x).natAbs)
  case atStart => exact ⟨n, [], rfl, h1, h2, Lib.hid ⟨rfl, .inl ⟨rfl, rfl⟩⟩, Lib.hid (by rw [List.append_nil]; exact HD.out), Lib.hid (Below.refl _ _)⟩
  case round =>
    obtain ⟨m, L, rfl, hm1, hm2, hown, hq, hbel⟩ := hrel
    by_cases h0 : m = 0
    · subst h0
      have hL : Hid (L = D) := Lib.hid (by have := hq.out; simpa [dl_zero] using this)
      go_wp2_with fail
      go_ret
      exact ⟨_, rfl, by rw [← hL.out]; exact hown.out, hbel.out⟩
    · have b0 : (m != 0) = true := by rw [bne_iff_ne]; exact h0
      obtain ⟨A, c, rfl, hsrc, hA⟩ := hown.out.slice
      have HSrc := Lib.hid hsrc
      have HA := Lib.hid hA
      clear hsrc hA h0
      have hLl : L.length ≤ 20 := by
        have h3 := HLen.out
        rw [← hq.out, List.length_append] at h3
        omega
      have hn0 : m ≠ 0 := by simpa using b0
      by_cases hpos : 0 ≤ m
      · go_wp2_with (at_builtin; refine wpList_append_src _ rfl (.tmp 14) (.tmp 15) 122 rfl w.heap.size 3 i0 (.int .i64 0) 8 Tryd.underlying122 hi hz0 hz1 hz2 rfl (.slice (some ⟨wr.heap.size, 0, none⟩) 1 1) 1 [.int .i64 (m % 10)] rfl (fresh_own _ _ _ hbel.out.size _ rfl) A L.length c (L.map intV) rfl (by simp) ?src (ints_one L) ?c3 ?c4 ?c5 ?_)
        case src => exact HSrc.out.keep (B := wr.heap.size) (fun ad e => (HA.out ad e).2) ((Below.refl _ _).alloc (Nat.le_refl _) _)
        case c3 => unfold maxLen; omega
        case c4 => omega
        case c5 => have := hbel.out.size; simp; omega
        intro v' w1 hown1 hg1 _
        have hO : Hid (Own w1 w.heap.size v' (m.natAbs % 10 :: L)) := Lib.hid (by
          have e : intV (m.natAbs % 10) = .int .i64 (m % 10) := by unfold intV; congr 1; omega
          unfold Own
          rw [List.map_cons, e, List.length_cons, Nat.add_comm]
          exact hown1)
        have hb1 : Hid (Below w.heap.size w w1) := Lib.hid ((hbel.out.alloc hbel.out.size _).grown hg1 (by have := hbel.out.size; simp; omega) (fun k h => by simp [Value.ownBlock] at h; have := hbel.out.size; omega))
        clear hown1 hg1
        go_wp2_with fail
        go_roundw
        case rel => exact ⟨m / 10, m.natAbs % 10 :: L, rfl, by omega, by omega, hO, Lib.hid (by rw [show (m / 10).natAbs = m.natAbs / 10 by omega, ← hq.out, dl_step m.natAbs (by omega), List.append_assoc]; rfl), hb1⟩
        case measure => simp [intOf]; omega
      · obtain ⟨q, d, hmq, hd10⟩ : ∃ q d : Nat, m = -(10 * (q : Int) + d) ∧ d < 10 := ⟨m.natAbs / 10, m.natAbs % 10, by omega, by omega⟩
        have HM := Lib.hid hmq
        have htd : m.tdiv 10 = -(q : Int) := by
          rw [hmq, Int.neg_tdiv, Int.tdiv_eq_ediv_of_nonneg (by omega)]
          omega
        have htm : m.tmod 10 = -(d : Int) := by
          rw [hmq, Int.neg_tmod, Int.tmod_eq_emod_of_nonneg (by omega)]
          omega
        have hqb : (q : Int) ≤ 922337203685477580 := by omega
        clear hmq
        by_cases hd0 : d = 0
        · subst hd0
          simp only [Int.natCast_zero, Int.neg_zero] at htm
          go_wp2_with (at_builtin; refine wpList_append_src _ rfl (.tmp 14) (.tmp 15) 122 rfl w.heap.size 3 i0 (.int .i64 0) 8 Tryd.underlying122 hi hz0 hz1 hz2 rfl (.slice (some ⟨wr.heap.size, 0, none⟩) 1 1) 1 [.int .i64 (0)] rfl (fresh_own _ _ _ hbel.out.size _ rfl) A L.length c (L.map intV) rfl (by simp) ?src (ints_one L) ?c3 ?c4 ?c5 ?_)
          case src => exact HSrc.out.keep (B := wr.heap.size) (fun ad e => (HA.out ad e).2) ((Below.refl _ _).alloc (Nat.le_refl _) _)
          case c3 => unfold maxLen; omega
          case c4 => omega
          case c5 => have := hbel.out.size; simp; omega
          intro v' w1 hown1 hg1 _
          have hO : Hid (Own w1 w.heap.size v' (m.natAbs % 10 :: L)) := Lib.hid (by
            have e : intV (m.natAbs % 10) = .int .i64 (0) := by unfold intV; congr 1; have := HM.out; omega
            unfold Own
            rw [List.map_cons, e, List.length_cons, Nat.add_comm]
            exact hown1)
          have hb1 : Hid (Below w.heap.size w w1) := Lib.hid ((hbel.out.alloc hbel.out.size _).grown hg1 (by have := hbel.out.size; simp; omega) (fun k h => by simp [Value.ownBlock] at h; have := hbel.out.size; omega))
          clear hown1 hg1
          go_wp2_with fail
          go_roundw
          case rel => exact ⟨-(q : Int), m.natAbs % 10 :: L, rfl, by have := HM.out; omega, by have := HM.out; omega, hO, Lib.hid (by rw [show (-(q : Int)).natAbs = m.natAbs / 10 by have := HM.out; omega, ← hq.out, dl_step m.natAbs (by omega), List.append_assoc]; rfl), hb1⟩
          case measure => simp [intOf]; have := HM.out; omega
        · have hdp : 0 < (d : Int) := by omega
          go_wp2_with (at_builtin; refine wpList_append_src _ rfl (.tmp 14) (.tmp 15) 122 rfl w.heap.size 3 i0 (.int .i64 0) 8 Tryd.underlying122 hi hz0 hz1 hz2 rfl (.slice (some ⟨wr.heap.size, 0, none⟩) 1 1) 1 [.int .i64 ((d : Int))] rfl (fresh_own _ _ _ hbel.out.size _ rfl) A L.length c (L.map intV) rfl (by simp) ?src (ints_one L) ?c3 ?c4 ?c5 ?_)
          case src => exact HSrc.out.keep (B := wr.heap.size) (fun ad e => (HA.out ad e).2) ((Below.refl _ _).alloc (Nat.le_refl _) _)
          case c3 => unfold maxLen; omega
          case c4 => omega
          case c5 => have := hbel.out.size; simp; omega
          intro v' w1 hown1 hg1 _
          have hO : Hid (Own w1 w.heap.size v' (m.natAbs % 10 :: L)) := Lib.hid (by
            have e : intV (m.natAbs % 10) = .int .i64 ((d : Int)) := by unfold intV; congr 1; have := HM.out; omega
            unfold Own
            rw [List.map_cons, e, List.length_cons, Nat.add_comm]
            exact hown1)
          have hb1 : Hid (Below w.heap.size w w1) := Lib.hid ((hbel.out.alloc hbel.out.size _).grown hg1 (by have := hbel.out.size; simp; omega) (fun k h => by simp [Value.ownBlock] at h; have := hbel.out.size; omega))
          clear hown1 hg1
          go_wp2_with fail
          go_roundw
          case rel => exact ⟨-(q : Int), m.natAbs % 10 :: L, rfl, by have := HM.out; omega, by have := HM.out; omega, hO, Lib.hid (by rw [show (-(q : Int)).natAbs = m.natAbs / 10 by have := HM.out; omega, ← hq.out, dl_step m.natAbs (by omega), List.append_assoc]; rfl), hb1⟩
          case measure => simp [intOf]; have := HM.out; omega
end Go.Proofs.YtcgdeoldgnjdeaaDoor
