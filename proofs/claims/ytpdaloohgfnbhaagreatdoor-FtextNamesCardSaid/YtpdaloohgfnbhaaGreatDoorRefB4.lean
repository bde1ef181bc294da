/-
  counterpaneref02.Right, Text, Bad, Truth, Number, Fold, Faults, FaultOf, Read.
-/
import Derived.Test.YtpdaloohgfnbhaaGreatDoorRefA3
import Derived.Test.YtpdaloohgfnbhaaGreatDoorVal7
import Derived.Test.YtpdaloohgfnbhaaGreatDoorPl1
import Derived.Test.YtpdaloohgfnbhaaGreatDoorRefA8
namespace Go.Proofs.YtpdaloohgfnbhaaGreatDoor
open Go.RowKit

/-- may a value be? -/
def vRight (v : Val) : Bool :=
  !((decide (v.kind ≠ 1) && !(decide (v.mant = 0) && decide (v.exp = 0))) || (decide (v.kind ≠ 2) && decide (v.text ≠ [])) || (decide (v.kind ≠ 3) && v.truth) || (decide (v.kind ≠ 4) && decide (v.fault ≠ 0))) &&
  (if v.kind = 1 then pRight v.mant v.exp else if v.kind = 2 then decide (v.text.length ≤ 255) else decide (v.kind = 0) || decide (v.kind = 3) || (decide (v.kind = 4) && decide (1 ≤ v.fault) && decide (v.fault ≤ 9)))
theorem conv_one (w : World) (n : Nat) (c : UInt8) (x : Int) (hx : ((c.toNat : Nat) : Int) = x) (hn : n = w.heap.size) : (convert 54 9 (.slice (some ⟨n, 0, none⟩) 1 1)).run Tryz.prog (w.alloc (.cells #[.int .u8 x] 5)) = .ok (.string ⟨[c].toArray⟩) (w.alloc (.cells #[.int .u8 x] 5)) := by
  subst hn
  subst hx
  refine conv_back [c] _ w.heap.size 1 1 rfl ?_
  intro j hj
  have hl := Lies.new w 5 #[.int .u8 (c.toNat : Int)]
  have : j = 0 := by simpa using hj
  subst this
  exact ⟨hl.cell 0, hl.frozen 0⟩
set_option maxRecDepth 100000 in
set_option maxHeartbeats 1600000 in
theorem rfold_any (l : Bs) (w : World) (hs : l.length ≤ 1000000) :
    Calls Tryz.prog 15 #[.string ⟨l.toArray⟩] w fun e w' => e = .returned (.string ⟨(pFold l).toArray⟩) ∧ Below w.heap.size w w' := by
  go_enter Tryz.func15, Tryz.ntmps15
  go_wp2_with fail
  go_loopw [3, 4] (fun v i wr => ∃ k : Nat, k ≤ l.length ∧ i = .int .i64 k ∧ v = .string ⟨(pFold (l.take k)).toArray⟩ ∧ Hid (Below w.heap.size w wr)) (fun _ i _ => l.length - (intOf i).toNat)
  case atStart => exact ⟨0, Nat.zero_le _, rfl, rfl, Lib.hid (Below.refl _ _)⟩
  case round =>
    obtain ⟨k, hk, rfl, rfl, hb⟩ := hrel
    by_cases hlt : k < l.length
    · have hsn : pFold (l.take (k + 1)) = pFold (l.take k) ++ [up l[k]] := by rw [List.take_succ_eq_append_getElem hlt]; unfold pFold; rw [List.map_append]; rfl
      have HSn := Lib.hid hsn
      have hpl : (pFold (l.take k)).length ≤ 1000000 := by rw [pFold_len, List.length_take]; omega
      have HB2 : Hid (∀ o, Below w.heap.size w (wr.alloc o)) := Lib.hid (fun o => hb.out.alloc hb.out.size o)
      clear hsn
      generalize pFold (l.take k) = D at *
      cases hlow : isLow l[k]
      · have hu := up_other _ hlow
        rw [hu] at HSn
        have hno : ¬ (97 ≤ (l[k].toNat : Int) ∧ (l[k].toNat : Int) ≤ 122) := by
          intro h
          have : isLow l[k] = true := (isLow_iff _).2 ⟨by omega, by omega⟩
          rw [hlow] at this; cases this
        have hcv := conv_one wr wr.heap.size l[k] (l[k].toNat : Int) rfl rfl
        clear hu
        go_wp2_with fail
        all_goals go_roundw
        all_goals first
          | exact ⟨k + 1, by omega, by go_num, by rw [HSn.out], Lib.hid (HB2.out _)⟩
          | (simp [intOf]; omega)
      · obtain ⟨h97, h122⟩ := (isLow_iff _).1 hlow
        have hcv := conv_one wr wr.heap.size (up l[k]) ((l[k].toNat : Int) - 32) (by have := up_low _ hlow; omega) rfl
        go_wp2_with fail
        go_roundw
        case rel => exact ⟨k + 1, by omega, by go_num, by rw [HSn.out], Lib.hid (HB2.out _)⟩
        case measure => simp [intOf]; omega
    · have hall : Hid (l.take k = l) := Lib.hid (List.take_of_length_le (by omega))
      go_wp2_with fail
      go_ret
      exact ⟨by rw [hall.out]; rfl, hb.out⟩
def faults02 : List Bs := (List.range 10).map faultB
theorem faults_cell {w : World} {g : Nat} (h : Lies w g 9 (faults02.map fun s => Value.string ⟨s.toArray⟩).toArray) (k : Nat) (hk : k < 10) : w.cell? ⟨g, k, none⟩ = some (.string ⟨(faultB k).toArray⟩) := by
  rw [h.cell]
  simp [faults02, hk]
end Go.Proofs.YtpdaloohgfnbhaaGreatDoor
