/-
  mask.grouped: what it returns.
-/
import Derived.Test.YteccjdclkcipbaaDoorPlMa
import Derived.Test.YteccjdclkcipbaaDoorBuild1
import Derived.Test.YteccjdclkcipbaaDoorShelfB
import Derived.Test.YteccjdclkcipbaaDoorNum1
namespace Go.Proofs.YteccjdclkcipbaaDoor
open Go.RowKit

set_option maxHeartbeats 3200000 in
theorem grouped_any (l : Bs) (w : World) (hl : l.length ≤ 1000000) :
    Calls Tryd.prog 125 #[.string ⟨l.toArray⟩] w fun e w' => e = .returned (.string ⟨(groupG l).toArray⟩) ∧ Below w.heap.size w w' := by
  have HP := Lib.hid (GInv.start l)
  go_enter Tryd.func125, Tryd.ntmps125
  go_wp2_with fail
  go_loopw [4, 7] (fun _ i wr => ∃ (k : Nat) (acc : Bs), i = .int .i64 k ∧ Hid (GInv l acc k) ∧ Hid (Lib.IsBuilder 102 5 w.heap.size w.heap.size (Lib.byteCells acc) wr) ∧ Hid (Below w.heap.size w wr)) (fun _ i _ => l.length - (intOf i).toNat)
  case atStart => exact ⟨0, [], rfl, HP, Lib.hid (Lib.fresh_isBuilder _ _ w), Lib.hid ((Below.refl _ w).alloc (Nat.le_refl _) _)⟩
  case round =>
    obtain ⟨k, acc, rfl, hq, hB, hbel⟩ := hrel
    have hlk : True := trivial
    clear HP
    by_cases hlt : k < l.length
    · have hacc := hq.out.2.1
      have hstep := Lib.hid (hq.out.step hlt)
      cases hc : commaAt l.length k
      · rw [hc, if_neg (by decide)] at hstep
        by_cases hk0 : 0 < k
        · have hm : ((l.length : Int) - (k : Int)) % 3 ≠ 0 := by
            simp [commaAt, hk0] at hc
            omega
          have hm2 : (((l.length : Int) - (k : Int)) % 3 == 0) = false := by rw [beq_eq_false_iff_ne]; exact hm
          clear hm hc hlk
          go_wp2_with fail
          refine (writeByte_any w.heap.size w.heap.size acc l[k] _ hB.out (by omega) hbel.out.size).mono ?_
          rintro e w1 ⟨rfl, hb1, hb2⟩
          have HB1 := Lib.hid hb1
          have HW1 : Hid (Below w.heap.size w w1) := Lib.hid (hbel.out.trans hb2)
          clear hb1 hb2 hB hbel
          go_wp2_with fail
          go_roundw
          case rel => exact ⟨k + 1, _, by go_num, hstep, HB1, HW1⟩
          case measure => simp [intOf]; omega
        · obtain rfl : k = 0 := by omega
          clear hc hlk hk0
          go_wp2_with fail
          refine (writeByte_any w.heap.size w.heap.size acc l[0] _ hB.out (by omega) hbel.out.size).mono ?_
          rintro e w1 ⟨rfl, hb1, hb2⟩
          have HB1 := Lib.hid hb1
          have HW1 : Hid (Below w.heap.size w w1) := Lib.hid (hbel.out.trans hb2)
          clear hb1 hb2 hB hbel
          go_wp2_with fail
          go_roundw
          case rel => exact ⟨0 + 1, _, by go_num, hstep, HB1, HW1⟩
          case measure => simp [intOf]; omega
      · rw [hc, if_pos rfl] at hstep
        have hc2 : 0 < k ∧ ((l.length : Int) - (k : Int)) % 3 = 0 := by
          unfold commaAt at hc
          rw [Bool.and_eq_true, decide_eq_true_eq, decide_eq_true_eq] at hc
          omega
        obtain ⟨hk0, hm⟩ := hc2
        have hm2 : (((l.length : Int) - (k : Int)) % 3 == 0) = true := by rw [beq_iff_eq]; exact hm
        clear hm hc hlk
        go_wp2_with fail
        refine (writeByte_any w.heap.size w.heap.size acc 44 _ hB.out (by omega) hbel.out.size).mono ?_
        rintro e w1 ⟨rfl, hb1, hb2⟩
        have HB1 := Lib.hid hb1
        have HW1 : Hid (Below w.heap.size w w1) := Lib.hid (hbel.out.trans hb2)
        clear hb1 hb2 hB hbel
        go_wp2_with fail
        refine (writeByte_any w.heap.size w.heap.size (acc ++ [44]) l[k] _ HB1.out (by simp; omega) HW1.out.size).mono ?_
        rintro e w2 ⟨rfl, hb1, hb2⟩
        have HB2 := Lib.hid hb1
        have HW2 : Hid (Below w.heap.size w w2) := Lib.hid (HW1.out.trans hb2)
        clear hb1 hb2 HB1 HW1
        go_wp2_with fail
        go_roundw
        case rel => exact ⟨k + 1, _, by go_num, hstep, HB2, HW2⟩
        case measure => simp [intOf]; omega
    · have hres := hq.out.done hlt
      have HBU : Hid (Lib.IsBuilder 102 5 w.heap.size w.heap.size (Lib.byteCells (groupG l)) wr) := Lib.hid (hres ▸ hB.out)
      clear hres hB
      go_wp2_with fail
      refine (Tryd.Builder_String_any w.heap.size w.heap.size (groupG l) _ HBU.out hbel.out.size).mono ?_
      rintro e w1 ⟨rfl, hb⟩
      go_wp2_with fail
      go_ret
      exact ⟨rfl, hbel.out.trans hb⟩
end Go.Proofs.YteccjdclkcipbaaDoor
