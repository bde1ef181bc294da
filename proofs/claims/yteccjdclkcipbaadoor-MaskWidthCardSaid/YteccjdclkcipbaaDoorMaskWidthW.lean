/-
  mask.Width; counterpanelaw31.MaskWidth: the walk.
-/
import Derived.Test.YteccjdclkcipbaaDoorMask10
import Derived.Lib.RuneCountTail
import Derived.Lib.TrimU
namespace Go.Proofs.YteccjdclkcipbaaDoor
open Go.RowKit

theorem rc_step (s : ByteArray) (pos : Nat) (h : pos < s.size) : Lib.runeCountFrom s (s.size - pos) pos = 1 + Lib.runeCountFrom s (s.size - (pos + (Utf8.decode s pos).2)) (pos + (Utf8.decode s pos).2) := by
  have hw := Lib.decode_width_pos s pos h
  rw [show s.size - pos = (s.size - pos - 1) + 1 by omega]
  conv => lhs; unfold Lib.runeCountFrom
  rw [if_pos h, Lib.fuel_enough s (s.size - pos - 1) (s.size - (pos + (Utf8.decode s pos).2)) _ (by omega) (by omega)]
theorem rc_pos (s : ByteArray) (h : 0 < s.size) : 0 < Lib.runeCount s := by
  unfold Lib.runeCount
  have := rc_step s 0 h
  rw [Nat.sub_zero] at this
  omega
def rcL (l : Bs) : Nat := Lib.runeCount ⟨l.toArray⟩
theorem rep_snoc (i : Nat) (c : UInt8) : Value.string ((ByteArray.mk (Array.replicate i c)) ++ (ByteArray.mk #[c])) = .string ⟨(List.replicate (i + 1) c).toArray⟩ := by
  rw [List.replicate_succ', ← S_append]
  simp
theorem size_mk (l : Bs) : (ByteArray.mk l.toArray).size = l.length := by simp [ByteArray.size]
theorem rcL_le (l : Bs) : rcL l ≤ l.length := by have := Lib.runeCount_le ⟨l.toArray⟩; rw [size_mk] at this; exact this
theorem rcL_pos (l : Bs) : (0 < rcL l) ↔ (0 < l.length) := by
  constructor
  · intro h; have := rcL_le l; omega
  · intro h; exact rc_pos ⟨l.toArray⟩ (by rw [size_mk]; exact h)
theorem get!_mk (l : Bs) (j : Nat) : (ByteArray.mk l.toArray).get! j = l.getD j 0 := by rw [← Lib.getD_get!']
theorem rcL_split (n : Nat) (s : Bs) : rcL (List.replicate n 97 ++ s) = n + rcL s := by
  unfold rcL
  have h := Lib.runeCount_split (ByteArray.mk (List.replicate n 97 ++ s : Bs).toArray) n (by rw [size_mk]; simp) (fun j hj => by
    rw [get!_mk, List.getD, List.getElem?_append_left (by simpa using hj), List.getElem?_replicate, if_pos hj]
    decide)
  rw [h, size_mk, S_extract]
  congr 3
  simp
set_option maxRecDepth 100000 in
set_option maxHeartbeats 1600000 in
theorem width_any (l : Bs) (w : World) (hl : l.length ≤ 1000000) :
    Calls Tryd.prog 35 #[.string ⟨l.toArray⟩] w fun e w' => e = .returned (.int .i64 (rcL l : Int)) ∧ Below w.heap.size w w' := by
  have HS := Lib.hid (size_mk l)
  have HI0 : Hid ((w.iter ⟨l.toArray⟩ 0).heap[w.heap.size]? = some (.stringIter ⟨l.toArray⟩ 0)) := Lib.hid (World.iter_heap w ⟨l.toArray⟩ 0)
  have HB0 : Hid (Below w.heap.size w (w.iter ⟨l.toArray⟩ 0)) := Lib.hid ((Below.refl _ w).alloc (Nat.le_refl _) _)
  have HC0 : Hid (0 + Lib.runeCountFrom ⟨l.toArray⟩ ((ByteArray.mk l.toArray).size - 0) 0 = rcL l) := Lib.hid (by unfold rcL Lib.runeCount; rw [Nat.sub_zero, Nat.zero_add])
  have hle := rcL_le l
  generalize rcL l = c at *
  go_enter Tryd.func35, Tryd.ntmps35
  go_wp2_with fail
  go_loopw [3] (fun v wr => ∃ (pos k : Nat), v = .int .i64 (k : Int) ∧ Hid (k + Lib.runeCountFrom ⟨l.toArray⟩ ((ByteArray.mk l.toArray).size - pos) pos = c) ∧ Hid (wr.heap[w.heap.size]? = some (.stringIter ⟨l.toArray⟩ pos)) ∧ Hid (Below w.heap.size w wr)) (fun _ wr => l.length - wr.iterPos w.heap.size)
  case atStart => exact ⟨0, 0, rfl, HC0, HI0, HB0⟩
  case round =>
    obtain ⟨pos, k, rfl, hc, hit, hbel⟩ := hrel
    clear HI0 HB0 HC0
    have hp1 : Hid (wr.iterPos w.heap.size = pos) := Lib.hid (by unfold World.iterPos; rw [hit.out])
    by_cases hp : pos < l.length
    · have hps : pos < (ByteArray.mk l.toArray).size := by rw [HS.out]; exact hp
      have hnx : ∀ ty, (Instr.next (.pointer (some ⟨w.heap.size, 0, none⟩)) true ty).run Tryd.prog wr = .ok (.tuple #[.bool true, .int .i64 pos, .int .i32 ((Utf8.decode ⟨l.toArray⟩ pos).1 : Int)]) (wr.iterAt w.heap.size ⟨l.toArray⟩ (pos + (Utf8.decode ⟨l.toArray⟩ pos).2)) :=
        fun ty => Lib.run_next_any_at (P := Tryd.prog) wr w.heap.size ⟨l.toArray⟩ pos ty hit.out hps
      have hw := Lib.decode_width_pos ⟨l.toArray⟩ pos hps
      have hst := rc_step ⟨l.toArray⟩ pos hps
      have hc2 : Hid (k + 1 + Lib.runeCountFrom ⟨l.toArray⟩ ((ByteArray.mk l.toArray).size - (pos + (Utf8.decode ⟨l.toArray⟩ pos).2)) (pos + (Utf8.decode ⟨l.toArray⟩ pos).2) = c) := Lib.hid (by have := hc.out; omega)
      have hk : k ≤ 1000000 := by have := hc.out; omega
      clear hst hc
      generalize (Utf8.decode ⟨l.toArray⟩ pos).1 = r at *
      generalize (Utf8.decode ⟨l.toArray⟩ pos).2 = d at *
      have hit2 : Hid ((wr.iterAt w.heap.size ⟨l.toArray⟩ (pos + d)).heap[w.heap.size]? = some (.stringIter ⟨l.toArray⟩ (pos + d))) := Lib.hid (Lib.iterAt_heap wr w.heap.size ⟨l.toArray⟩ pos (pos + d) hit.out)
      have hb2 : Hid (Below w.heap.size w (wr.iterAt w.heap.size ⟨l.toArray⟩ (pos + d))) := Lib.hid (Lib.below_iterAt hbel.out (Nat.le_refl _) ⟨l.toArray⟩ (pos + d))
      have hp2 : Hid ((wr.iterAt w.heap.size ⟨l.toArray⟩ (pos + d)).iterPos w.heap.size = pos + d) := Lib.hid (by unfold World.iterPos; rw [hit2.out])
      clear hit hbel hps
      go_wp2_with fail
      go_roundw
      case rel => exact ⟨pos + d, k + 1, by go_num, hc2, hit2, hb2⟩
      case measure => rw [hp2.out, hp1.out]; omega
    · have hnx : ∀ ty, (Instr.next (.pointer (some ⟨w.heap.size, 0, none⟩)) true ty).run Tryd.prog wr = .ok (.tuple #[.bool false]) wr :=
        fun ty => Lib.run_next_end_at (P := Tryd.prog) wr w.heap.size ⟨l.toArray⟩ pos ty hit.out (by rw [HS.out]; exact hp)
      have hk : k = c := by
        have := hc.out
        rw [Lib.runeCountFrom_end _ _ _ (by rw [HS.out]; exact hp)] at this
        omega
      subst hk
      clear hit hc
      go_wp2_with fail
      go_ret
      exact ⟨rfl, hbel.out⟩
set_option maxRecDepth 100000 in
set_option maxHeartbeats 3200000 in
theorem maskWidth_any (s : Bs) (n : Nat) (w : World) (hn : n ≤ 255) (hs : s.length ≤ maxLen) (hT : Tab w) (hP : PowTab w) (hM : MaxVar w) :
    Calls Tryd.prog 8 #[.string ⟨s.toArray⟩, .int .u8 (n : Int)] w fun e w' => e = .returned (.bool true) ∧ Below w.heap.size w w' := by
  have CA := Lib.hid (awake31_any w hT hP hM)
  unfold maxLen at hs
  clear hT hP hM
  by_cases h1000 : 1000 < s.length
  · go_enter Tryd.func8, Tryd.ntmps8
    go_wp2_with fail
    refine CA.out.mono ?_
    rintro e w1 ⟨rfl, hb⟩
    have HB := Lib.hid hb
    clear hb
    go_wp2_with fail
    go_ret
    exact ⟨rfl, HB.out⟩
  have CS := Lib.hid (fun W => width_any s W (by omega))
  have CP := Lib.hid (fun W => width_any (List.replicate n 97) W (by rw [List.length_replicate]; omega))
  have CPS := Lib.hid (fun W => width_any (List.replicate n 97 ++ s) W (by rw [List.length_append, List.length_replicate]; omega))
  have e1 : rcL (List.replicate n 97) = n := by
    have := rcL_split n []
    rw [List.append_nil] at this
    rw [this]
    rfl
  rw [e1] at CP
  rw [rcL_split] at CPS
  have hle := rcL_le s
  have hpos := rcL_pos s
  clear e1
  generalize rcL s = c at *
  have hbb : (decide ((0 : Int) < (c : Int)) == decide ((0 : Int) < (s.length : Int))) = true := by
    rw [beq_iff_eq, decide_eq_decide]
    omega
  have hbb2 : (decide (0 < c) == decide (0 < s.length)) = true := by
    rw [beq_iff_eq, decide_eq_decide]
    exact hpos
  clear hpos
  go_enter Tryd.func8, Tryd.ntmps8
  go_wp2_with fail
  refine CA.out.mono ?_
  rintro e w1 ⟨rfl, hb⟩
  have HB := Lib.hid hb
  clear hb CA
  go_wp2_with fail
  refine (CS.out _).mono ?_
  rintro e w2 ⟨rfl, hb⟩
  have HB2 := Lib.hid (HB.out.trans (hb.mono HB.out.size))
  clear hb HB CS
  go_wp2_with fail
  go_loop [6, 7] (fun p v => ∃ i : Nat, i ≤ n ∧ v = .int .i64 (i : Int) ∧ p = .string ⟨(List.replicate i (97 : UInt8)).toArray⟩) (fun _ v => n - (intOf v).toNat)
  case atStart => exact ⟨0, Nat.zero_le _, rfl, rfl⟩
  case round =>
    obtain ⟨i, hi, rfl, rfl⟩ := hrel
    by_cases hlt : i < n
    · have hr := Lib.hid (rep_snoc i 97)
      have hl : (List.replicate i (97 : UInt8)).length ≤ 255 := by rw [List.length_replicate]; omega
      go_wp2_with fail
      go_round
      case rel => exact ⟨i + 1, by omega, by go_num, by first | exact hr.out | simpa using hr.out⟩
      case measure => simp [intOf]; omega
    · obtain rfl : i = n := by omega
      have hl : (List.replicate i (97 : UInt8)).length ≤ 255 := by rw [List.length_replicate]; omega
      generalize List.replicate i (97 : UInt8) = p at *
      go_wp2_with fail
      refine (CP.out _).mono ?_
      rintro e w3 ⟨rfl, hb⟩
      have HB3 := Lib.hid (HB2.out.trans (hb.mono HB2.out.size))
      clear hb HB2 CP
      go_wp2_with fail
      refine (CPS.out _).mono ?_
      rintro e w4 ⟨rfl, hb⟩
      have HB4 := Lib.hid (HB3.out.trans (hb.mono HB3.out.size))
      clear hb HB3 CPS
      go_wp2_with fail
      go_ret
      exact ⟨rfl, HB4.out⟩
end Go.Proofs.YteccjdclkcipbaaDoor
