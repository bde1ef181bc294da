/-
  Plain words: the fault that a text begins with.
-/
import Derived.Test.YtcgdeoldgnjdeaaDoorVal2
namespace Go.Proofs.YtcgdeoldgnjdeaaDoor
open Go.RowKit

theorem find_first (p : Nat → Bool) (n k : Nat) (h1 : 1 ≤ k) (h2 : k < n + 1) (hk : p k = true) (h : ∀ j, 1 ≤ j → j < k → p j = false) : (List.range' 1 n).find? p = some k := by
  rw [List.find?_range'_eq_some]
  refine ⟨hk, by simp [List.mem_range'_1]; omega, fun j hj1 hj2 => by rw [h j hj1 hj2]; rfl⟩
theorem find_no (p : Nat → Bool) (n : Nat) (h : ∀ j, 1 ≤ j → j < n + 1 → p j = false) : (List.range' 1 n).find? p = none := by
  rw [List.find?_eq_none]
  intro j hj
  rw [List.mem_range'_1] at hj
  rw [h j hj.1 (by omega)]
  decide
def pFaultAt (l : Bs) (k : Nat) : Bool := decide ((faultB k).length ≤ l.length) && (pFold (l.take (faultB k).length) == faultB k)
def pFault (l : Bs) : Option Nat := if atIs l 0 35 then (List.range' 1 9).find? (pFaultAt l) else none
def pFaultB (l : Bs) : Bs := match pFault l with | some k => faultB k | none => []

set_option maxHeartbeats 800000 in
theorem faultOf_any (L : Bs) (w : World) (hp : 0 < L.length) (hs : L.length ≤ maxLen) (ht : Tab w) :
    Calls Tryd.prog 111 #[.string ⟨L.toArray⟩] w fun e w' => e = .returned (.tuple #[.string ⟨(pFaultB L).toArray⟩, .int .i64 (pFaultB L).length]) ∧ Below w.heap.size w w' := by
  have e35 := at_bne L 0 35 35 rfl hp
  have hN : pFault L = if atIs L 0 35 then (List.range' 1 9).find? (pFaultAt L) else none := rfl
  cases h35 : atIs L 0 35
  · have hB : pFaultB L = [] := by unfold pFaultB; rw [hN, h35]; rfl
    rw [h35] at e35
    rw [hB]
    clear hN hB ht
    go_enter Tryd.func111, Tryd.ntmps111
    go_wp2_with fail
    go_ret2
    exact ⟨rfl, Below.refl _ _⟩
  · rw [h35] at e35 hN
    rw [if_pos rfl] at hN
    have HN := Lib.hid hN
    clear hN
    have HT := Lib.hid ht
    clear ht
    have HB : Hid (pFaultB L = match pFault L with | some k => faultB k | none => []) := Lib.hid rfl
    generalize pFaultB L = R at *
    have hs' := hs
    unfold maxLen at hs'
    go_enter Tryd.func111, Tryd.ntmps111
    go_wp2_with fail
    go_loopw [4] (fun i wr => ∃ k : Nat, 1 ≤ k ∧ k ≤ 10 ∧ i = .int .i64 k ∧ Hid (∀ j, 1 ≤ j → j < k → pFaultAt L j = false) ∧ Hid (Below w.heap.size w wr)) (fun i _ => 10 - (intOf i).toNat)
    case atStart => exact ⟨1, by omega, by omega, rfl, Lib.hid (fun j h1 h2 => by omega), Lib.hid (Below.refl _ _)⟩
    case round =>
      obtain ⟨k, hk1, hk2, rfl, hr, hbel⟩ := hrel
      have ht2 : Hid (Tab wr) := Lib.hid (HT.out.next hbel.out)
      by_cases hlt : k ≤ 9
      · have hft : Hid (pFaultText (k : Int) = faultB k) := Lib.hid (by unfold pFaultText; rw [if_pos (by omega)]; simp)
        go_wp2_with fail
        refine (faultText_any (k : Int) _ ht2.out).mono ?_
        rintro e w' ⟨rfl, rfl⟩
        rw [hft.out]
        have hA : pFaultAt L k = (decide ((faultB k).length ≤ L.length) && (pFold (L.take (faultB k).length) == faultB k)) := rfl
        have HA := Lib.hid hA
        have HF : Hid (pFault L = some k → R = faultB k) := Lib.hid (by intro h; rw [HB.out, h])
        clear hA hft
        generalize faultB k = t at *
        by_cases hle : t.length ≤ L.length
        · go_wp2_with fail
          refine (fold_any (L.take t.length) _ (by rw [List.length_take]; omega)).mono ?_
          rintro e w1 ⟨rfl, hb1⟩
          generalize pFold (L.take t.length) = u at *
          have hb2 : Hid (Below w.heap.size w w1) := Lib.hid (hbel.out.trans (hb1.mono hbel.out.size))
          clear hb1
          cases hu : (u == t)
          · have hq : Hid (pFaultAt L k = false) := Lib.hid (by rw [HA.out, hu]; simp)
            go_wp2_with fail
            go_roundw
            case rel =>
              refine ⟨k + 1, by omega, by omega, by go_num, Lib.hid (fun j h1 h2 => ?_), hb2⟩
              by_cases e : j = k
              · rw [e]; exact hq.out
              · exact hr.out j h1 (by omega)
            case measure => simp [intOf]; omega
          · have hq : Hid (R = t) := Lib.hid (HF.out (by rw [HN.out]; exact find_first _ 9 k hk1 (by omega) (by rw [HA.out, hu]; simpa using hle) hr.out))
            go_wp2_with fail
            go_ret2
            exact ⟨by rw [hq.out]; rfl, hb2.out⟩
        · have hq : Hid (pFaultAt L k = false) := Lib.hid (by rw [HA.out]; simp; intro h; omega)
          go_wp2_with fail
          go_roundw
          case rel =>
            refine ⟨k + 1, by omega, by omega, by go_num, Lib.hid (fun j h1 h2 => ?_), hbel⟩
            by_cases e : j = k
            · rw [e]; exact hq.out
            · exact hr.out j h1 (by omega)
          case measure => simp [intOf]; omega
      · have hq : Hid (R = []) := Lib.hid (by rw [HB.out, HN.out, find_no _ 9 (fun j h1 h2 => hr.out j h1 (by omega))])
        go_wp2_with fail
        go_ret2
        exact ⟨by rw [hq.out]; rfl, hbel.out⟩
end Go.Proofs.YtcgdeoldgnjdeaaDoor
