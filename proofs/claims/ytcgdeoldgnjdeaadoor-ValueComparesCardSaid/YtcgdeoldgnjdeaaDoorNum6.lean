/-
  num.bare: what it returns.
-/
import Derived.Test.YtcgdeoldgnjdeaaDoorNum3
namespace Go.Proofs.YtcgdeoldgnjdeaaDoor
open Go.RowKit

/-- digits in memory that the call may write, from base on -/
def BSl (w : World) (base : Nat) (A : Option Addr) (cap : Nat) (ds : List Nat) : Prop :=
  ds.length ≤ cap ∧ cap ≤ maxLen ∧ (0 < ds.length → ∃ b off, A = some ⟨b, off, none⟩ ∧ base ≤ b ∧ b < w.heap.size ∧ ∀ j (h : j < ds.length), w.cell? ⟨b, off + j, none⟩ = some (byteV ds[j]) ∧ w.frozen? ⟨b, off + j, none⟩ = false)
/-- what bare leaves -/
def BarePost (A0 : Option Addr) (base : Nat) (ds : List Nat) (w : World) (e : Ending) (w' : World) : Prop := ∃ A cap, e = .returned (.slice A (bareL ds).length cap) ∧ BSl w base A cap (bareL ds) ∧ w = w' ∧ (∀ a, A = some a → ∃ a0, A0 = some a0 ∧ a.block = a0.block)
theorem BSl.tail {w : World} {base b off cap : Nat} {d : Nat} {ds : List Nat} (h : BSl w base (some ⟨b, off, none⟩) cap (d :: ds)) : BSl w base (if cap = 1 then some ⟨b, off, none⟩ else some ⟨b, off + 1, none⟩) (cap - 1) ds := by
  obtain ⟨h1, h2, h3⟩ := h
  simp only [List.length_cons] at h1 h3
  refine ⟨by omega, by omega, fun hp => ?_⟩
  obtain ⟨b', off', e, hb, hlt, hc⟩ := h3 (by omega)
  injection e with e
  injection e with e1 e2 e3
  subst e1; subst e2
  rw [if_neg (by omega)]
  refine ⟨b, off + 1, rfl, hb, hlt, fun j hj => ?_⟩
  have := hc (j + 1) (by omega)
  simpa [Nat.add_assoc, Nat.add_comm 1 j] using this
set_option maxRecDepth 100000 in
set_option maxHeartbeats 1600000 in
theorem bare_any (A : Option Addr) (cap base : Nat) (ds : List Nat) (w : World) (h : BSl w base A cap ds) :
    Calls Tryd.prog 139 #[.slice A ds.length cap] w fun e w' => BarePost A base ds w e w' := by
  have HB := Lib.hid h
  clear h
  go_enter Tryd.func139, Tryd.ntmps139
  go_wp2_with fail
  go_loop [0] (fun v => ∃ (L : List Nat) (A' : Option Addr) (cap' n : Nat), v = .slice A' n cap' ∧ Hid (n = L.length) ∧ Hid (BSl w base A' cap' L) ∧ Hid (bareL L = bareL ds) ∧ Hid (∀ a, A' = some a → ∃ a0, A = some a0 ∧ a.block = a0.block)) (fun v => match v with | .slice _ n _ => n | _ => 0)
  case atStart => exact ⟨ds, A, cap, ds.length, rfl, Lib.hid rfl, HB, Lib.hid rfl, Lib.hid (fun a h => ⟨a, h, rfl⟩)⟩
  case round =>
    obtain ⟨L, A', cap', n, rfl, hn, hB, hq, hA⟩ := hrel
    cases L with
    | nil =>
      have h0 : n = 0 := by rw [hn.out]; rfl
      subst h0
      have hr : Hid (bareL ds = []) := Lib.hid (by rw [← hq.out]; rfl)
      go_wp2_with fail
      go_ret
      exact ⟨A', cap', by rw [hr.out]; rfl, by rw [hr.out]; exact hB.out, rfl, hA.out⟩
    | cons d L =>
      obtain ⟨b, off, rfl, hbb, hlt, hc⟩ := hB.out.2.2 (by simp)
      have c0 := (hc 0 (by simp)).1
      simp only [Nat.add_zero, List.getElem_cons_zero, byteV] at c0
      have hcap := hB.out.1
      have hcap2 := hB.out.2.1
      unfold maxLen at hcap2
      have hn1 : 0 < n := by rw [hn.out]; simp
      have hnc : n ≤ cap' := by rw [hn.out]; exact hcap
      clear hc hcap
      by_cases hd : d = 0
      · subst hd
        have hB2 := Lib.hid hB.out.tail
        have hA2 : Hid (∀ a, (if cap' = 1 then some (⟨b, off, none⟩ : Addr) else some ⟨b, off + 1, none⟩) = some a → ∃ a0, A = some a0 ∧ a.block = a0.block) := Lib.hid (fun a h => by
          obtain ⟨a0, h1, h2⟩ := hA.out _ rfl
          refine ⟨a0, h1, ?_⟩
          split at h <;> (injection h with h; subst h; exact h2))
        have hn2 : Hid (n - 1 = L.length) := Lib.hid (by rw [hn.out]; simp)
        have hq2 : Hid (bareL L = bareL ds) := Lib.hid hq.out
        go_wp2_with fail
        go_round
        case rel => exact ⟨L, _, cap' - 1, n - 1, rfl, hn2, hB2, hq2, hA2⟩
        case measure => simp; omega
      · have bd : ((d : Int) == 0) = false := by rw [beq_eq_false_iff_ne]; omega
        have hr : Hid (bareL ds = d :: L) := Lib.hid (by
          rw [← hq.out]
          cases d with
          | zero => exact absurd rfl hd
          | succ d => rfl)
        clear hd
        go_wp2_with fail
        go_ret
        exact ⟨some ⟨b, off, none⟩, cap', by rw [hr.out, hn.out]; rfl, by rw [hr.out]; exact hB.out, rfl, hA.out⟩
end Go.Proofs.YtcgdeoldgnjdeaaDoor
