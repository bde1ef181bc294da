/-
  ref05.in, May: what they return.
-/
import Derived.Test.YtcgdeoldgnjdeaaDoorJoin2
namespace Go.Proofs.YtcgdeoldgnjdeaaDoor
open Go.RowKit

def inL (s : Bs) (l : List Bs) : Bool := l.any (fun t => t == s) && !s.isEmpty
theorem inL_at (s : Bs) (l : List Bs) (k : Nat) (hk : k < l.length) (h : (l[k] == s) = true) (hs : s.isEmpty = false) : inL s l = true := by
  unfold inL
  rw [hs, List.any_eq_true.2 ⟨l[k], List.getElem_mem hk, h⟩]
  rfl
theorem inL_no (s : Bs) (l : List Bs) (h : ∀ j (hj : j < l.length), (l[j] == s) = false) : inL s l = false := by
  unfold inL
  have : l.any (fun t => t == s) = false := by
    rw [List.any_eq_false]
    intro x hx
    obtain ⟨j, hj, rfl⟩ := List.getElem_of_mem hx
    rw [h j hj]
    decide
  rw [this]
  rfl
set_option maxRecDepth 100000 in
set_option maxHeartbeats 1600000 in
theorem in_any (s : Bs) (g cap : Nat) (l : List Bs) (w : World) (hl : l.length ≤ 100) (hin : StrIn w g l) :
    Calls Tryd.prog 81 #[.string ⟨s.toArray⟩, .slice (some ⟨g, 0, none⟩) l.length cap] w fun e w' => e = .returned (.bool (inL s l)) ∧ w = w' := by
  have HIN := Lib.hid hin
  clear hin
  cases hs : s.isEmpty
  · have hne : s ≠ [] := by intro e; rw [e] at hs; cases hs
    go_enter Tryd.func81, Tryd.ntmps81
    go_wp2_with fail
    go_loopg [5] (l.length) (fun gk i wr => ∃ k : Nat, k ≤ l.length ∧ gk = l.length - k ∧ i = .int .i64 k ∧ Hid (∀ j (hj : j < l.length), j < k → (l[j] == s) = false) ∧ w = wr)
    case atStart => exact ⟨0, Nat.zero_le _, rfl, rfl, Lib.hid (fun j _ h => by omega), rfl⟩
    case round =>
      obtain ⟨k, hk, hgk, rfl, HN, rfl⟩ := hrel
      have HGK := Lib.hid hgk
      clear hgk
      by_cases hlt : k < l.length
      · have c0 : w.cell? ⟨g, k, none⟩ = some (.string ⟨l[k].toArray⟩) := HIN.out.2 k hlt
        have hk0 : (0 : Int) ≤ (k : Int) := Int.natCast_nonneg _
        have hk1 : (k : Int) < (l.length : Int) := by omega
        cases he : (l[k] == s)
        · have HN2 : Hid (∀ j (hj : j < l.length), j < k + 1 → (l[j] == s) = false) := Lib.hid (fun j hj h => by
            rcases Nat.lt_or_ge j k with h' | h'
            · exact HN.out j hj h'
            · obtain rfl : j = k := by omega
              exact he)
          go_wp2_with fail
          go_roundg (l.length - (k + 1))
          case rel => exact ⟨k + 1, by omega, rfl, by go_num, HN2, rfl⟩
          case measure => rw [HGK.out]; omega
        · have HV := Lib.hid (inL_at s l k hlt he hs)
          go_wp2_with fail
          go_ret
          exact ⟨ret_bool HV.out.symm, rfl⟩
      · have HV := Lib.hid (inL_no s l (fun j hj => HN.out j hj (by omega)))
        go_wp2_with fail
        go_ret
        exact ⟨ret_bool HV.out.symm, rfl⟩
  · obtain rfl : s = [] := List.isEmpty_iff.1 hs
    have HV : Hid (inL [] l = false) := Lib.hid (by unfold inL; simp)
    go_enter Tryd.func81, Tryd.ntmps81
    go_wp2_with fail
    go_loopg [5] (l.length) (fun gk i wr => ∃ k : Nat, k ≤ l.length ∧ gk = l.length - k ∧ i = .int .i64 k ∧ w = wr)
    case atStart => exact ⟨0, Nat.zero_le _, rfl, rfl, rfl⟩
    case round =>
      obtain ⟨k, hk, hgk, rfl, rfl⟩ := hrel
      have HGK := Lib.hid hgk
      clear hgk
      by_cases hlt : k < l.length
      · have c0 : w.cell? ⟨g, k, none⟩ = some (.string ⟨l[k].toArray⟩) := HIN.out.2 k hlt
        have hk0 : (0 : Int) ≤ (k : Int) := Int.natCast_nonneg _
        have hk1 : (k : Int) < (l.length : Int) := by omega
        generalize l[k] = x at *
        cases x with
        | nil =>
          go_wp2_with fail
          go_roundg (l.length - (k + 1))
          case rel => exact ⟨k + 1, by omega, rfl, by go_num, rfl⟩
          case measure => rw [HGK.out]; omega
        | cons c x =>
          go_wp2_with fail
          go_roundg (l.length - (k + 1))
          case rel => exact ⟨k + 1, by omega, rfl, by go_num, rfl⟩
          case measure => rw [HGK.out]; omega
      · go_wp2_with fail
        go_ret
        exact ⟨ret_bool HV.out.symm, rfl⟩
end Go.Proofs.YtcgdeoldgnjdeaaDoor
