/-
  counterpanelaw05.LexTexts: the walk.
-/
import Derived.Test.YtcgdeoldgnjdeaaDoorLexA
import Derived.Test.YtcgdeoldgnjdeaaDoorPlainT
import Derived.Test.YtcgdeoldgnjdeaaDoorVal2
import Derived.Test.YtcgdeoldgnjdeaaDoorPl1
namespace Go.Proofs.YtcgdeoldgnjdeaaDoor
open Go.RowKit

/-- bytes that came in: a slice of them -/
def InBytes (w : World) (A : Option Addr) (b : Bs) : Prop := 0 < b.length → ∃ g o, A = some ⟨g, o, none⟩ ∧ g < w.heap.size ∧ ∀ j (h : j < b.length), w.cell? ⟨g, o + j, none⟩ = some (.int .u8 (b[j].toNat : Int))
theorem InBytes.next {w w' : World} {A : Option Addr} {b : Bs} (h : InBytes w A b) (hb : Below w.heap.size w w') : InBytes w' A b := by
  intro hp
  obtain ⟨g, o, hA, hg, hc⟩ := h hp
  exact ⟨g, o, hA, by have := hb.size; omega, fun j hj => (hb.cell (p := ⟨g, o + j, none⟩) hg).trans (hc j hj)⟩
theorem InBytes.conv {w : World} {A : Option Addr} {b : Bs} (h : InBytes w A b) (cap : Nat) : (convert 36 9 (.slice A b.length cap)).run Tryd.prog w = .ok (.string ⟨b.toArray⟩) w := by
  rcases Nat.eq_zero_or_pos b.length with h0 | h0
  · obtain rfl : b = [] := List.eq_nil_of_length_eq_zero h0
    cases A with
    | none =>
      rw [run_convert_bytes_string w 36 9 5 none _ cap Tryd.underlying36 Tryd.underlying5 Tryd.underlying9]
      simp [Conv.bytesToString]
      rfl
    | some a => exact run_convert_bytes_back w 36 9 5 a cap [] Tryd.underlying36 Tryd.underlying5 Tryd.underlying9 (fun j hj => by simp at hj)
  · obtain ⟨g, o, rfl, hg, hc⟩ := h h0
    refine run_convert_bytes_back w 36 9 5 ⟨g, o, none⟩ cap b Tryd.underlying36 Tryd.underlying5 Tryd.underlying9 (fun j hj => ?_)
    rw [← hc j hj]
    unfold Addr.add
    by_cases e : j = 0
    · simp [e]
    · simp [e]

set_option maxRecDepth 100000 in
set_option maxHeartbeats 1600000 in
theorem lexTexts_great (A : Option Addr) (b : Bs) (cap : Nat) (w : World) (hb : 200 < b.length) (ht : Tab w) :
    Calls Tryd.prog 5 #[.slice A b.length cap] w fun e w' => e = .returned (.bool true) ∧ Below w.heap.size w w' := by
  have HT := Lib.hid ht
  clear ht
  go_enter Tryd.func5, Tryd.ntmps5
  go_wp2_with fail
  refine (awake_any _ HT.out).mono ?_
  rintro e w1 ⟨rfl, hb1⟩
  have HB1 := Lib.hid hb1
  have HT1 : Hid (Tab w1) := Lib.hid (HT.out.next hb1)
  clear hb1
  go_wp2_with fail
  refine (awake_any _ HT1.out).mono ?_
  rintro e w2 ⟨rfl, hb2⟩
  have HB2 : Hid (Below w.heap.size w w2) := Lib.hid (HB1.out.trans (hb2.mono HB1.out.size))
  clear hb2
  go_wp2_with fail
  go_ret
  exact ⟨rfl, HB2.out⟩

set_option maxRecDepth 100000 in
set_option maxHeartbeats 1600000 in
theorem lexTexts_small (A : Option Addr) (b : Bs) (cap : Nat) (w : World) (hb : b.length ≤ 200) (hcap : b.length ≤ cap) (hin : InBytes w A b) (ht : Tab w) :
    Calls Tryd.prog 5 #[.slice A b.length cap] w fun e w' => e = .returned (.bool true) ∧ Below w.heap.size w w' := by
  have HT := Lib.hid ht
  have HIN := Lib.hid hin
  clear ht hin
  go_enter Tryd.func5, Tryd.ntmps5
  go_wp2_with fail
  refine (awake_any _ HT.out).mono ?_
  rintro e w1 ⟨rfl, hb1⟩
  have HB1 := Lib.hid hb1
  have HT1 : Hid (Tab w1) := Lib.hid (HT.out.next hb1)
  have HIN1 : Hid (InBytes w1 A b) := Lib.hid (HIN.out.next hb1)
  clear hb1 HT HIN
  go_wp2_with fail
  go_loop [3, 4] (fun s i => ∃ k : Nat, k ≤ b.length ∧ i = .int .i64 k ∧ s = .string ⟨(34 :: quoteB (b.take k)).toArray⟩) (fun _ i => b.length - (intOf i).toNat)
  case atStart => exact ⟨0, Nat.zero_le _, rfl, rfl⟩
  case round =>
    obtain ⟨k, hk, rfl, rfl⟩ := hrel
    have hq := quoteB_len (b.take k)
    rw [List.length_take, Nat.min_eq_left hk] at hq
    by_cases hlt : k < b.length
    · obtain ⟨g, o, rfl, hg, hc⟩ := HIN1.out (by omega)
      have hck := hc k hlt
      have hconv := run_convert_bytes_back w1 36 9 5 ⟨g, o + k, none⟩ (cap - k) [b[k]] Tryd.underlying36 Tryd.underlying5 Tryd.underlying9 (fun j hj => by
        obtain rfl : j = 0 := by simpa using hj
        simpa [Addr.add] using hck)
      simp only [List.length_singleton] at hconv
      clear hc
      have hnext : quoteB (b.take (k + 1)) = quoteB (b.take k) ++ if b[k] = 34 then [34, 34] else [b[k]] := by
        rw [List.take_succ_eq_append_getElem hlt, quoteB_app]
        simp only [quoteB]
      have HNX := Lib.hid hnext
      clear hnext
      have e34 := at_beq b k 34 34 rfl hlt
      cases h34 : atIs b k 34
      · have hne : b[k] ≠ 34 := ne_of_at hlt h34
        have HN2 : Hid (quoteB (b.take (k + 1)) = quoteB (b.take k) ++ [b[k]]) := Lib.hid (by rw [HNX.out, if_neg hne])
        rw [h34] at e34
        clear HNX hne
        go_wp2_with fail
        go_round
        case rel => exact ⟨k + 1, by omega, by go_num, str_eq (by rw [HN2.out])⟩
        case measure => simp [intOf]; omega
      · have heq : Hid (b[k] = 34) := Lib.hid (by
          unfold atIs at h34
          rw [List.getElem?_eq_getElem hlt] at h34
          have := eq_of_beq h34
          injection this)
        have HN2 : Hid (quoteB (b.take (k + 1)) = quoteB (b.take k) ++ [34, 34]) := Lib.hid (by rw [HNX.out, if_pos heq.out])
        rw [h34] at e34
        clear HNX
        go_wp2_with fail
        go_round
        case rel => exact ⟨k + 1, by omega, by go_num, str_eq (by rw [HN2.out, heq.out])⟩
        case measure => simp [intOf]; omega
    · obtain rfl : k = b.length := by omega
      have hq2 := quoteB_len b
      have hl1 : (34 :: (quoteB b ++ [34])).length ≤ 1000000 := by simp; omega
      have hl2 : (34 :: quoteB b).length ≤ 1000000 := by simp; omega
      go_wp2_with fail
      refine (lex_ok (34 :: (quoteB b ++ [34])) [⟨2, b, 0⟩] _ hl1 HT1.out (pLex_quote b)).mono ?_
      rintro e w2 ⟨g, cap2, rfl, hown, hb2⟩
      have HT2 : Hid (Tab w2) := Lib.hid (HT1.out.next hb2)
      have HIN2 : Hid (InBytes w2 A b) := Lib.hid (HIN1.out.next hb2)
      have HB2 : Hid (Below w.heap.size w w2) := Lib.hid (HB1.out.trans (hb2.mono HB1.out.size))
      have HO2 := Lib.hid hown
      clear hb2 hown HIN1 HT1 HB1
      go_wp2_with fail
      refine (lex_bad (34 :: quoteB b) 0 _ hl2 HT2.out (pLex_open b)).mono ?_
      rintro e w3 ⟨rfl, hb3⟩
      have HIN3 : Hid (InBytes w3 A b) := Lib.hid (HIN2.out.next hb3)
      have HB3 : Hid (Below w.heap.size w w3) := Lib.hid (HB2.out.trans (hb3.mono HB2.out.size))
      have HO3 := Lib.hid (own_next hb3 HO2.out)
      clear hb3 HIN2 HT2 HB2 HO2
      have c0 : w3.cell? ⟨g, 0, none⟩ = some (.int .i64 2) := (HO3.out.cellAt 0 (by simp)).trans rfl
      have c1 : w3.cell? ⟨g, 1, none⟩ = some (.string ⟨b.toArray⟩) := (HO3.out.cellAt 1 (by simp)).trans rfl
      have hconv := fun nq => InBytes.conv (w := w3.drewN nq) HIN3.out cap
      have hbb : (b == b) = true := by simp
      go_wp2_with fail
      go_quiet (fail)
      go_wp2_with fail
      go_ret
      exact ⟨rfl, below_drewN HB3.out _⟩
end Go.Proofs.YtcgdeoldgnjdeaaDoor
