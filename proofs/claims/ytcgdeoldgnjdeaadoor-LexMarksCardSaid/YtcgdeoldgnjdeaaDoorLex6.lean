/-
  lex.quoted: what it returns.
-/
import Derived.Test.YtcgdeoldgnjdeaaDoorLex5
import Derived.Test.YtcgdeoldgnjdeaaDoorBuild1
import Derived.Test.YtcgdeoldgnjdeaaDoorPlainQ
namespace Go.Proofs.YtcgdeoldgnjdeaaDoor
open Go.RowKit

set_option maxHeartbeats 1600000 in
theorem quoted_any (l : Bs) (w : World) (hp : 0 < l.length) (hs : l.length ≤ 140737488351232) :
    Calls Tryd.prog 110 #[.string ⟨l.toArray⟩] w fun e w' => e = .returned (tokV (pQuoted l)) ∧ Below w.heap.size w w' := by
  have HP := Lib.hid (QInv.start l hp)
  go_enter Tryd.func110, Tryd.ntmps110
  go_wp2_with fail
  go_loopw [6] (fun i wr => ∃ (k : Nat) (acc : Bs), i = .int .i64 k ∧ Hid (QInv l acc k) ∧ Hid (Lib.IsBuilder 93 5 w.heap.size w.heap.size (Lib.byteCells acc) wr) ∧ Hid (Below w.heap.size w wr)) (fun i _ => l.length + 1 - (intOf i).toNat)
  case atStart => exact ⟨1, [], rfl, HP, Lib.hid (Lib.fresh_isBuilder _ _ w), Lib.hid ((Below.refl _ w).alloc (Nat.le_refl _) _)⟩
  case round =>
    obtain ⟨k, acc, rfl, hq, hbu, hbel⟩ := hrel
    clear HP
    have hk1 := hq.out.1
    have hk2 := hq.out.2.1
    have hk3 := hq.out.2.2.1
    go_wp2_with fail
    have hidx := Lib.indexByte_ge (l.drop k) 34
    refine (indexByte_any (l.drop k) 34 _).mono ?_
    rintro e w' ⟨rfl, rfl⟩
    generalize hI : Lib.indexByte (l.drop k) 34 = i at *
    have HI := Lib.hid hI
    clear hI
    by_cases hi : i < 0
    · have hf : Hid (pQuoted l = (0, [], 0)) := Lib.hid (hq.out.fail (by rw [HI.out]; exact hi))
      go_wp2_with fail
      go_ret3
      exact ⟨by rw [hf.out]; rfl, hbel.out⟩
    · obtain ⟨n, rfl⟩ := Int.eq_ofNat_of_zero_le (by omega : 0 ≤ i)
      have hsp := (hq.out.split HI.out).1
      have hlen : acc.length + ((l.drop k).take n).length ≤ 140737488355328 := by rw [List.length_take]; omega
      go_wp2_with fail
      refine (writeString_any w.heap.size w.heap.size acc ((l.drop k).take n) _ hbu.out hlen hbel.out.size).mono ?_
      rintro e w1 ⟨rfl, hbu1, hb1⟩
      have HBU := Lib.hid hbu1
      have HB : Hid (Below w.heap.size w w1) := Lib.hid (hbel.out.trans hb1)
      clear hbu1 hb1 hbu hbel
      by_cases hend : k + (n + 1) = l.length
      · have hstop : Hid (pQuoted l = (2, acc ++ (l.drop k).take n, k + n + 1)) := Lib.hid (hq.out.stop HI.out (at_out _ _ _ (by omega)))
        have b1 : ((k : Int) + ((n : Int) + 1) == (l.length : Int)) = true := by rw [beq_iff_eq]; omega
        clear hend
        go_wp2_with fail
        refine (Tryd.Builder_String_any w.heap.size w.heap.size (acc ++ (l.drop k).take n) _ HBU.out HB.out.size).mono ?_
        rintro e w2 ⟨rfl, hb2⟩
        have HB2 : Hid (Below w.heap.size w w2) := Lib.hid (HB.out.trans hb2)
        clear hb2
        go_wp2_with fail
        go_ret3
        exact ⟨by rw [hstop.out]; exact ret_tok (by simp; omega), HB2.out⟩
      · have hlt : k + (n + 1) < l.length := by omega
        have b1 : ((k : Int) + ((n : Int) + 1) == (l.length : Int)) = false := by rw [beq_eq_false_iff_ne]; omega
        have e34 := at_bne l (k + (n + 1)) 34 34 rfl hlt
        clear hend
        cases h34 : atIs l (k + (n + 1)) 34
        · have hstop : Hid (pQuoted l = (2, acc ++ (l.drop k).take n, k + n + 1)) := Lib.hid (hq.out.stop HI.out h34)
          rw [h34] at e34
          go_wp2_with fail
          refine (Tryd.Builder_String_any w.heap.size w.heap.size (acc ++ (l.drop k).take n) _ HBU.out HB.out.size).mono ?_
          rintro e w2 ⟨rfl, hb2⟩
          have HB2 : Hid (Below w.heap.size w w2) := Lib.hid (HB.out.trans hb2)
          clear hb2
          go_wp2_with fail
          go_ret3
          exact ⟨by rw [hstop.out]; exact ret_tok (by simp; omega), HB2.out⟩
        · have hnext := Lib.hid (hq.out.next HI.out h34)
          rw [h34] at e34
          have hlen2 : (acc ++ (l.drop k).take n).length + 1 ≤ 140737488355328 := by rw [List.length_append, List.length_take]; omega
          go_wp2_with fail
          refine (writeByte_any w.heap.size w.heap.size (acc ++ (l.drop k).take n) 34 _ HBU.out hlen2 HB.out.size).mono ?_
          rintro e w2 ⟨rfl, hbu2, hb2⟩
          have HBU2 := Lib.hid hbu2
          have HB2 : Hid (Below w.heap.size w w2) := Lib.hid (HB.out.trans hb2)
          clear hbu2 hb2
          go_wp2_with fail
          go_roundw
          case rel => exact ⟨k + n + 1 + 1, _, by go_num, hnext, HBU2, HB2⟩
          case measure => simp [intOf]; omega
end Go.Proofs.YtcgdeoldgnjdeaaDoor
