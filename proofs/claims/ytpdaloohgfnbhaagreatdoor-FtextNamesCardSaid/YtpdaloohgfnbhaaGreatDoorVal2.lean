/-
  value: folded, Fold, FaultText (merged: Val1, Val2).
-/
import Derived.Test.YtpdaloohgfnbhaaGreatDoorKit
import Derived.Test.YtpdaloohgfnbhaaGreatDoorPl1
import Derived.Laws.IdiomStrings
namespace Go.Proofs.YtpdaloohgfnbhaaGreatDoor
open Go.RowKit

theorem conv_bytes (l : Bs) (w : World) : ∃ (cap : Nat) (W1 : World), (convert 9 54 (.string ⟨l.toArray⟩)).run Tryz.prog w = .ok (.slice (some ⟨w.heap.size, 0, none⟩) l.length cap) W1 ∧ Row W1 w.heap.size l ∧ Below w.heap.size w W1 := by
  have h := run_bytes_of_string (P := Tryz.prog) w 9 54 5 ⟨l.toArray⟩ Tryz.underlying9 Tryz.underlying54 Tryz.underlying5
  have hsz : (ByteArray.mk l.toArray).size = l.length := by simp [ByteArray.size]
  rw [hsz] at h
  refine ⟨_, _, h, ?_, (Below.refl _ w).drew.alloc (Nat.le_refl _) _⟩
  intro j hj
  have e : (w.drew).heap.size = w.heap.size := rfl
  have hlen : (bytesRow ⟨l.toArray⟩ (grownCap w l.length 0 5)).size ≥ l.length := by simp [bytesRow]
  refine ⟨?_, ?_⟩
  · have := World.cell?_alloc_mark w.drew (bytesRow ⟨l.toArray⟩ (grownCap w l.length 0 5)) 5 ((bytesRow ⟨l.toArray⟩ (grownCap w l.length 0 5)).size, (bytesRow ⟨l.toArray⟩ (grownCap w l.length 0 5)).size + 1) j
    rw [e] at this
    rw [this]
    unfold bytesRow
    rw [Array.getElem?_append_left (by simpa using hj)]
    simp [hj]
  · have := World.frozen?_alloc_mark w.drew (bytesRow ⟨l.toArray⟩ (grownCap w l.length 0 5)) 5 (bytesRow ⟨l.toArray⟩ (grownCap w l.length 0 5)).size ((bytesRow ⟨l.toArray⟩ (grownCap w l.length 0 5)).size + 1) j
    rw [e] at this
    rw [this]
    simp; omega
theorem conv_back (m : Bs) (w : World) (b cap n : Nat) (hn : m.length = n) (h : Row w b m) : (convert 54 9 (.slice (some ⟨b, 0, none⟩) n cap)).run Tryz.prog w = .ok (.string ⟨m.toArray⟩) w := by
  subst hn
  refine run_convert_bytes_back w 54 9 5 ⟨b, 0, none⟩ cap m Tryz.underlying54 Tryz.underlying5 Tryz.underlying9 (fun j hj => ?_)
  rw [← (h j hj).1]
  unfold Addr.add
  by_cases e : j = 0
  · simp [e]
  · simp [e]

set_option maxHeartbeats 800000 in
theorem folded_any (l : Bs) (w : World) (hs : l.length ≤ maxLen) :
    Calls Tryz.prog 132 #[.string ⟨l.toArray⟩] w fun e w' => e = .returned (.string ⟨(pFold l).toArray⟩) ∧ Below w.heap.size w w' := by
  unfold maxLen at hs
  obtain ⟨cap, W1, hconv, hrow, hbel⟩ := conv_bytes l w
  have HR := Lib.hid hrow
  clear hrow
  go_enter Tryz.func132, Tryz.ntmps132
  go_wp2
  go_loopw [10] (fun i wr => ∃ k : Nat, k ≤ l.length ∧ i = .int .i64 k ∧ Hid (Row wr w.heap.size (half l k)) ∧ Below w.heap.size w wr) (fun i _ => l.length - (intOf i).toNat)
  case atStart => exact ⟨0, Nat.zero_le _, rfl, Lib.hid (by simpa [half, pFold] using HR.out), hbel⟩
  case round =>
    obtain ⟨k, hk, rfl, hr, hb⟩ := hrel
    clear hbel HR hconv
    by_cases hlt : k < l.length
    · have hlen : k < (half l k).length := by rw [half_len]; exact hlt
      have hc := (hr.out k hlen).1
      have hf := (hr.out k hlen).2
      rw [half_get l k hlt hlen] at hc
      cases hlow : isLow l[k]
      · have hsame := Lib.hid (half_same l k hlt (up_other _ hlow))
        have hno : ¬ (97 ≤ (l[k].toNat : Int) ∧ (l[k].toNat : Int) ≤ 122) := by
          intro h
          have : isLow l[k] = true := (isLow_iff _).2 ⟨by omega, by omega⟩
          rw [hlow] at this; cases this
        go_wp2
        all_goals go_roundw
        all_goals first
          | exact ⟨k + 1, by omega, by go_num, by rw [← hsame.out]; exact hr, hb⟩
          | (simp [intOf]; omega)
      · have hyes := (isLow_iff _).1 hlow
        have HU := Lib.hid (half_set l k hlt)
        have hval : (((up l[k]).toNat : Nat) : Int) = (l[k].toNat : Int) - 97 + 65 := by have := up_low _ hlow; omega
        have HV := Lib.hid hval
        clear hval
        obtain ⟨h97, h122⟩ := hyes
        go_wp2
        go_roundw
        case rel => exact ⟨k + 1, by omega, by go_num, by rw [← HU.out]; exact Lib.hid (by rw [← HV.out]; exact hr.out.set k _), hb.setCell (p := ⟨w.heap.size, k, none⟩) (Nat.le_refl _) _⟩
        case measure => simp [intOf]; omega
    · have hk' : k = l.length := by omega
      have hfin : half l k = pFold l := by rw [hk']; exact half_all l
      have hr2 : Row wr w.heap.size (pFold l) := by rw [← hfin]; exact hr.out
      have hback := conv_back (pFold l) wr w.heap.size cap l.length (pFold_len l) hr2
      have HR2 := Lib.hid hr2
      clear hr2 hfin hr hk'
      go_wp2
      go_ret
      exact ⟨rfl, hb⟩
set_option maxHeartbeats 800000 in
theorem fold_any (l : Bs) (w : World) (hs : l.length ≤ maxLen) :
    Calls Tryz.prog 104 #[.string ⟨l.toArray⟩] w fun e w' => e = .returned (.string ⟨(pFold l).toArray⟩) ∧ Below w.heap.size w w' := by
  have hs' := hs
  unfold maxLen at hs'
  go_enter Tryz.func104, Tryz.ntmps104
  go_wp2
  go_loop [6] (fun i => ∃ k : Nat, k ≤ l.length ∧ i = .int .i64 k ∧ Hid (∀ c ∈ l.take k, isLow c = false)) (fun i => l.length - (intOf i).toNat)
  case atStart => exact ⟨0, Nat.zero_le _, rfl, Lib.hid (by simp)⟩
  case round =>
    obtain ⟨k, hk, rfl, hr⟩ := hrel
    by_cases hlt : k < l.length
    · cases hlow : isLow l[k]
      · have hno : ¬ (97 ≤ (l[k].toNat : Int) ∧ (l[k].toNat : Int) ≤ 122) := by
          intro h
          have : isLow l[k] = true := (isLow_iff _).2 ⟨by omega, by omega⟩
          rw [hlow] at this; cases this
        have hr2 : Hid (∀ c ∈ l.take (k + 1), isLow c = false) := Lib.hid (by
          rw [List.take_succ_eq_append_getElem hlt]
          intro c hc
          rcases List.mem_append.1 hc with h | h
          · exact hr.out c h
          · simp at h; rw [h]; exact hlow)
        go_wp2_with fail
        all_goals go_round
        all_goals first
          | exact ⟨k + 1, by omega, by go_num, hr2⟩
          | (simp [intOf]; omega)
      · obtain ⟨h1, h2⟩ := (isLow_iff _).1 hlow
        go_wp2_with fail
        refine (folded_any l _ hs).mono ?_
        rintro e w1 ⟨rfl, hb⟩
        go_wp2_with fail
        go_ret
        exact ⟨rfl, hb⟩
    · have hfin : Hid (pFold l = l) := Lib.hid (pFold_same l (by rw [List.take_of_length_le (by omega)] at hr; exact hr.out))
      go_wp2_with fail
      go_ret
      exact ⟨by rw [hfin.out]; rfl, Below.refl _ _⟩

/-- the faults' texts, by number -/
def faultB : Nat → Bs
  | 1 => [35, 68, 73, 86, 47, 48, 33]
  | 2 => [35, 86, 65, 76, 85, 69, 33]
  | 3 => [35, 82, 69, 70, 33]
  | 4 => [35, 78, 65, 77, 69, 63]
  | 5 => [35, 78, 85, 77, 33]
  | 6 => [35, 78, 47, 65]
  | 7 => [35, 83, 80, 73, 76, 76, 33]
  | 8 => [35, 67, 73, 82, 67, 33]
  | 9 => [35, 67, 65, 76, 67, 33]
  | _ => []
theorem lt_of_cell {w : World} {a : Addr} {v : Value} (h : w.cell? a = some v) : a.block < w.heap.size := by
  rcases Nat.lt_or_ge a.block w.heap.size with h1 | h1
  · exact h1
  · unfold World.cell? at h
    simp [Array.getElem?_eq_none h1] at h
def pFaultText (n : Int) : Bs := if 1 ≤ n ∧ n ≤ 9 then faultB n.toNat else []
end Go.Proofs.YtpdaloohgfnbhaaGreatDoor
