/-
  addr.right, dollar, Column, number: what they return.
-/
import Derived.Test.YtcgdeoldgnjdeaaDoorPlainK
import Derived.Test.YtcgdeoldgnjdeaaDoorNum9
import Derived.Test.YtcgdeoldgnjdeaaDoorStrWraps
namespace Go.Proofs.YtcgdeoldgnjdeaaDoor
open Go.RowKit

def mRight (r c : Int) : Bool := decide (0 ≤ r) && decide (r ≤ 9999998) && decide (0 ≤ c) && decide (c ≤ 18277)
theorem adRight_yes (r c : Int) (w : World) (h1 : 0 ≤ r) (h2 : r ≤ 9999998) (h3 : 0 ≤ c) (h4 : c ≤ 18277) :
    Calls Tryd.prog 90 #[.int .i64 r, .int .i64 c] w fun e w' => e = .returned (.bool true) ∧ w = w' := by
  go_enter Tryd.func90, Tryd.ntmps90
  go_wp2
  go_ret
  exact ⟨rfl, rfl⟩
theorem dollar_any (b : Bool) (w : World) : Calls Tryd.prog 91 #[.bool b] w fun e w' => e = .returned (.string ⟨(dolB b).toArray⟩) ∧ w = w' := by
  cases b
  all_goals
    go_enter Tryd.func91, Tryd.ntmps91
    go_wp2
    go_ret
    exact ⟨rfl, rfl⟩
theorem capVal (c : UInt8) (h : isCap c = true) : 65 ≤ c.toNat ∧ c.toNat ≤ 90 := by
  unfold isCap at h
  simpa using h
theorem colOf_take (l : Bs) (k : Nat) (h : k < l.length) : colOf (l.take (k + 1)) = colOf (l.take k) * 26 + (l[k].toNat - 65) + 1 := by
  rw [List.take_succ_eq_append_getElem h, colOf_snoc]
theorem colOf_bd (l : Bs) (h : ∀ c ∈ l, isCap c = true) (k : Nat) (hk : k ≤ 3) : colOf (l.take k) ≤ 18278 := by
  have st : ∀ j, j < l.length → colOf (l.take (j + 1)) ≤ colOf (l.take j) * 26 + 26 := fun j hj => by
    have := capVal _ (h l[j] (List.getElem_mem hj))
    rw [colOf_take l j hj]; omega
  have z : colOf (l.take 0) = 0 := rfl
  have step : ∀ j, colOf (l.take (j + 1)) ≤ colOf (l.take j) * 26 + 26 := fun j => by
    by_cases hj : j < l.length
    · exact st j hj
    · rw [List.take_of_length_le (by omega), List.take_of_length_le (by omega)]; omega
  have s0 : colOf (l.take 1) ≤ colOf (l.take 0) * 26 + 26 := step 0
  have s1 : colOf (l.take 2) ≤ colOf (l.take 1) * 26 + 26 := step 1
  have s2 : colOf (l.take 3) ≤ colOf (l.take 2) * 26 + 26 := step 2
  rw [z] at s0
  match k, hk with
  | 0, _ => rw [z]; omega
  | 1, _ => omega
  | 2, _ => omega
  | 3, _ => omega

/-- where a range over a text stands -/
structure ItIn (l : Bs) (w : World) (pos : Nat) (wr : World) : Prop where
  le : pos ≤ l.length
  it : wr.heap[w.heap.size]? = some (.stringIter ⟨l.toArray⟩ pos)
  bel : Below w.heap.size w wr
theorem ItIn.start (l : Bs) (w : World) : ItIn l w 0 (w.iter ⟨l.toArray⟩ 0) :=
  ⟨Nat.zero_le _, by have := World.iter_heap w ⟨l.toArray⟩ 0; simpa using this, by unfold World.iter; exact (Below.refl _ w).alloc (Nat.le_refl _) _⟩
theorem ItIn.next {l : Bs} {w wr : World} {pos : Nat} (h : ItIn l w pos wr) (hp : pos < l.length) : ItIn l w (pos + 1) (wr.iterAt w.heap.size ⟨l.toArray⟩ (pos + 1)) :=
  ⟨hp, Lib.iterAt_heap wr _ _ pos _ h.it, Lib.below_iterAt h.bel (k := w.heap.size) (Nat.le_refl _) ⟨l.toArray⟩ (pos + 1)⟩
theorem ItIn.pos {l : Bs} {w wr : World} {pos : Nat} (h : ItIn l w pos wr) : wr.iterPos w.heap.size = pos := by unfold World.iterPos; rw [h.it]
theorem ItIn.run {l : Bs} {w wr : World} {pos : Nat} (h : ItIn l w pos wr) (hp : pos < l.length) (ha : l[pos].toNat < 128) (ty : TypeId) :
    (Instr.next (.pointer (some ⟨w.heap.size, 0, none⟩)) true ty).run Tryd.prog wr = .ok (.tuple #[.bool true, .int .i64 pos, .int .i32 (l[pos].toNat : Int)]) (wr.iterAt w.heap.size ⟨l.toArray⟩ (pos + 1)) := by
  have hps : pos < (ByteArray.mk l.toArray).size := by simpa [ByteArray.size] using hp
  have hg : (ByteArray.mk l.toArray)[pos] = l[pos] := S_get l pos hps
  have := Lib.run_next_ascii_at (P := Tryd.prog) wr w.heap.size ⟨l.toArray⟩ pos ty h.it hps (by rw [hg]; exact ha)
  rw [hg] at this
  exact this
theorem ItIn.stop {l : Bs} {w wr : World} {pos : Nat} (h : ItIn l w pos wr) (hp : ¬ pos < l.length) (ty : TypeId) :
    (Instr.next (.pointer (some ⟨w.heap.size, 0, none⟩)) true ty).run Tryd.prog wr = .ok (.tuple #[.bool false]) wr :=
  Lib.run_next_end_at (P := Tryd.prog) wr w.heap.size ⟨l.toArray⟩ pos ty h.it (by simpa [ByteArray.size] using hp)

set_option maxRecDepth 100000 in
set_option maxHeartbeats 1600000 in
theorem column_any (l : Bs) (w : World) (h1 : 1 ≤ l.length) (h3 : l.length ≤ 3) (hl : ∀ c ∈ l, isCap c = true) :
    Calls Tryd.prog 95 #[.string ⟨l.toArray⟩] w fun e w' => e = .returned (.tuple #[.int .i64 ((colOf l : Int) - 1), .bool true]) ∧ Below w.heap.size w w' := by
  have hne : l.isEmpty = false := by cases l with | nil => simp at h1 | cons c l => rfl
  have hne' : l ≠ [] := by intro e; rw [e] at h1; simp at h1
  have HL := Lib.hid hl
  clear hl
  go_enter Tryd.func95, Tryd.ntmps95
  go_wp2_with fail
  go_loopw [4] (fun v wr => ∃ pos : Nat, v = .int .i64 (colOf (l.take pos) : Int) ∧ Hid (ItIn l w pos wr)) (fun _ wr => l.length - wr.iterPos w.heap.size)
  case atStart => exact ⟨0, rfl, Lib.hid (ItIn.start l w)⟩
  case round =>
    obtain ⟨pos, rfl, hI⟩ := hrel
    by_cases hp : pos < l.length
    · have hcap := capVal _ (HL.out l[pos] (List.getElem_mem hp))
      obtain ⟨q1, q2⟩ := hcap
      have hbd := colOf_bd l HL.out pos (by omega)
      have hbd2 := colOf_bd l HL.out (pos + 1) (by omega)
      have HS := Lib.hid (colOf_take l pos hp)
      have hnx := fun ty => hI.out.run (l := l) hp (by omega) ty
      have hI2 := Lib.hid (hI.out.next hp)
      have hp1 := Lib.hid hI.out.pos
      have hp2 := Lib.hid hI2.out.pos
      generalize l[pos].toNat = c at *
      generalize colOf (l.take pos) = n at *
      clear hbd2
      go_wp2_with fail
      go_roundw
      case rel => exact ⟨pos + 1, by rw [HS.out]; go_num, hI2⟩
      case measure => rw [hp2.out, hp1.out]; omega
    · have hnx := fun ty => hI.out.stop (l := l) hp ty
      have e : pos = l.length := by have := hI.out.le; omega
      have HE : Hid (l.take pos = l) := Lib.hid (by rw [e, List.take_length])
      have hbd := colOf_bd l HL.out pos (by omega)
      clear e
      rw [HE.out] at hbd ⊢
      go_wp2_with fail
      go_ret2
      exact ⟨rfl, hI.out.bel⟩
theorem natOf_take (l : Bs) (k : Nat) (h : k < l.length) : natOf (digL (l.take (k + 1))) = 10 * natOf (digL (l.take k)) + (l[k].toNat - 48) := by
  rw [List.take_succ_eq_append_getElem h, digL_append]
  exact natOf_snoc _ _
theorem natOf_bd (l : Bs) (h : AllDig l) (h7 : l.length ≤ 7) (k : Nat) : natOf (digL (l.take k)) ≤ 9999999 := by
  have hd : Dig (digL (l.take k)) := by
    intro d hd
    unfold digL at hd
    obtain ⟨c, hc, rfl⟩ := List.mem_map.1 hd
    have := (isDigit_iff c).1 (h c (List.mem_of_mem_take hc))
    omega
  have h1 := natOf_lt _ hd
  have h2 : (digL (l.take k)).length ≤ 7 := by rw [digL_len, List.length_take]; omega
  have h3 : (10 : Nat) ^ (digL (l.take k)).length ≤ 10 ^ 7 := Nat.pow_le_pow_right (by omega) h2
  omega
set_option maxRecDepth 100000 in
set_option maxHeartbeats 1600000 in
theorem adNumber_any (l : Bs) (w : World) (h1 : 1 ≤ l.length) (h7 : l.length ≤ 7) (hl : AllDig l) (h0 : atIs l 0 48 = false) :
    Calls Tryd.prog 96 #[.string ⟨l.toArray⟩] w fun e w' => e = .returned (.tuple #[.int .i64 (natOf (digL l) : Int), .bool true]) ∧ Below w.heap.size w w' := by
  have hne : l.isEmpty = false := by cases l with | nil => simp at h1 | cons c l => rfl
  have hne' : l ≠ [] := by intro e; rw [e] at h1; simp at h1
  have e48 := at_beq l 0 48 48 rfl h1
  rw [h0] at e48
  have HL := Lib.hid hl
  clear hl
  go_enter Tryd.func96, Tryd.ntmps96
  go_wp2_with fail
  go_loopw [4] (fun v wr => ∃ pos : Nat, v = .int .i64 (natOf (digL (l.take pos)) : Int) ∧ Hid (ItIn l w pos wr)) (fun _ wr => l.length - wr.iterPos w.heap.size)
  case atStart => exact ⟨0, rfl, Lib.hid (ItIn.start l w)⟩
  case round =>
    obtain ⟨pos, rfl, hI⟩ := hrel
    clear e48 hne hne'
    by_cases hp : pos < l.length
    · have hcap := (isDigit_iff _).1 (HL.out l[pos] (List.getElem_mem hp))
      obtain ⟨q1, q2⟩ := hcap
      have hbd := natOf_bd l HL.out h7 pos
      have HS := Lib.hid (natOf_take l pos hp)
      have hnx := fun ty => hI.out.run (l := l) hp (by omega) ty
      have hI2 := Lib.hid (hI.out.next hp)
      have hp1 := Lib.hid hI.out.pos
      have hp2 := Lib.hid hI2.out.pos
      have hbz : (natOf (digL (l.take pos)) : Int) ≤ 9999999 := by omega
      clear hbd
      generalize l[pos].toNat = c at *
      generalize natOf (digL (l.take pos)) = n at *
      go_wp2_with fail
      go_roundw
      case rel => exact ⟨pos + 1, by rw [HS.out]; go_num, hI2⟩
      case measure => rw [hp2.out, hp1.out]; omega
    · have hnx := fun ty => hI.out.stop (l := l) hp ty
      have e : pos = l.length := by have := hI.out.le; omega
      have HE : Hid (l.take pos = l) := Lib.hid (by rw [e, List.take_length])
      clear e
      rw [HE.out]
      go_wp2_with fail
      go_ret2
      exact ⟨rfl, hI.out.bel⟩
end Go.Proofs.YtcgdeoldgnjdeaaDoor
