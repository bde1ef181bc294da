/-
  addr.Letters, Text, Parse: what they return for a right mark.
-/
import Derived.Test.YtcgdeoldgnjdeaaDoorAddr1
import Derived.Test.YtcgdeoldgnjdeaaDoorNum10
import Derived.Test.YtcgdeoldgnjdeaaDoorLexTextsW
namespace Go.Proofs.YtcgdeoldgnjdeaaDoor
open Go.RowKit

theorem below_grow (w : World) (os : Array Obj) : Below w.heap.size w (Sort.grow w os) :=
  ⟨rfl, rfl, rfl, by simp [Sort.grow], fun k hk => by unfold Sort.grow; simp only; rw [Array.getElem?_append_left hk]⟩
theorem itoa_any (n : Nat) (w : World) (hp : PowTab w) (h : n ≤ 1000000000) :
    Calls Tryd.prog 93 #[.int .i64 n] w fun e w' => e = .returned (.string ⟨(Lib.decDigits n).toArray⟩) ∧ Below w.heap.size w w' :=
  (Tryd.strconv_Itoa (n : Int) (by omega) (by omega) w hp).mono fun _ _ ⟨h1, k, os, h2⟩ => ⟨by rw [h1, Lib.itoa_nonneg], by
    rw [h2]
    exact (below_drewN (Below.refl _ w) k).trans (below_grow (w.drewN k) os)⟩
/-- a slice that is one byte longer: it is made, its first byte is stored, the others are copied behind it -/
theorem longer (wr : World) (A : Option Addr) (L : Bs) (cap : Nat) (hin : InBytes wr A L) (hL : L.length ≤ 2) : ∃ W : World,
    (Instr.makeSlice 36 (.int .i64 ((L.length : Int) + 1)) (.int .i64 ((L.length : Int) + 1))).run Tryd.prog wr = .ok (.slice (some ⟨wr.heap.size, 0, none⟩) (L.length + 1) (L.length + 1)) W ∧
    W.cell? ⟨wr.heap.size, 0, none⟩ = some (.int .u8 0) ∧ W.frozen? ⟨wr.heap.size, 0, none⟩ = false ∧
    ∀ (c : UInt8) (ty : TypeId), ∃ W2 : World, (∀ d, L = [] ∨ d = 1 → (Builtin.copy_ #[36, 36] ty #[.slice (some ⟨wr.heap.size, d, none⟩) L.length L.length, .slice A L.length cap]).run Tryd.prog (W.setCell ⟨wr.heap.size, 0, none⟩ (.int .u8 (c.toNat : Int))) = .ok (.int .i64 L.length) W2) ∧
      InBytes W2 (some ⟨wr.heap.size, 0, none⟩) (c :: L) ∧ Below wr.heap.size wr W2 := by
  obtain ⟨i0, hi, hz0, hz1, hz2⟩ := info_parts infoByte
  have h := run_make (P := Tryd.prog) wr 36 5 i0 (.int .u8 0) Tryd.underlying36 hi hz0 .i64 .i64 ((L.length : Int) + 1) ((L.length : Int) + 1) (by omega) (Int.le_refl _) (by rw [hz2]; omega) (by omega)
  have e : ((L.length : Int) + 1).toNat = L.length + 1 := by omega
  rw [e, hz1, Nat.mul_one] at h
  have hl := Lies.new wr 5 (madeCells (Value.int .u8 0).cells (L.length + 1))
  have hsz : (madeCells (Value.int .u8 0).cells (L.length + 1)).size = L.length + 1 := by simp [madeCells, Value.cells]
  refine ⟨_, h, ?_, hl.frozen 0, fun c ty => ?_⟩
  · rw [hl.cell]; simp [madeCells, Value.cells]
  have hl2 := hl.put 0 (.int .u8 (c.toNat : Int))
  have hM1 : ((madeCells (Value.int .u8 0).cells (L.length + 1)).setIfInBounds 0 (.int .u8 (c.toNat : Int))).size = L.length + 1 := by rw [Array.size_setIfInBounds, hsz]
  have hM0 : ((madeCells (Value.int .u8 0).cells (L.length + 1)).setIfInBounds 0 (.int .u8 (c.toNat : Int)))[0]? = some (.int .u8 (c.toNat : Int)) := by rw [Array.getElem?_setIfInBounds, if_pos rfl, if_pos (by rw [hsz]; omega)]
  have hbel : Below wr.heap.size wr ((wr.alloc (.cells (madeCells (Value.int .u8 0).cells (L.length + 1)) 5)).setCell ⟨wr.heap.size, 0, none⟩ (.int .u8 (c.toNat : Int))) :=
    ((Below.refl _ wr).alloc (Nat.le_refl _) _).setCell (p := ⟨wr.heap.size, 0, none⟩) (Nat.le_refl _) _
  generalize ((madeCells (Value.int .u8 0).cells (L.length + 1)).setIfInBounds 0 (.int .u8 (c.toNat : Int))) = M at *
  generalize ((wr.alloc (.cells (madeCells (Value.int .u8 0).cells (L.length + 1)) 5)).setCell ⟨wr.heap.size, 0, none⟩ (.int .u8 (c.toNat : Int))) = W1 at *
  have hs1 : (Tryd.prog.info? 5).map (·.size) = some 1 := by rw [hi]; simp [hz1]
  rcases Nat.eq_zero_or_pos L.length with h0 | h0
  · obtain rfl : L = [] := List.eq_nil_of_length_eq_zero h0
    refine ⟨W1, fun d _ => ?_, ?_, hbel⟩
    · exact run_copy_none W1 36 36 ty 5 (some ⟨wr.heap.size, d, none⟩) A 0 0 0 cap Tryd.underlying36 hs1 rfl
    · intro _
      refine ⟨wr.heap.size, 0, rfl, hl2.lt, fun j hj => ?_⟩
      obtain rfl : j = 0 := by simpa using hj
      rw [hl2.cell]
      exact hM0
  · obtain ⟨g, o, rfl, hg, hc⟩ := hin h0
    have hin1 : ∀ j (h : j < L.length), W1.cell? ⟨g, o + j, none⟩ = some (.int .u8 (L[j].toNat : Int)) := fun j hj => (hbel.cell (p := ⟨g, o + j, none⟩) hg).trans (hc j hj)
    have hrun := run_copy_row (P := Tryd.prog) W1 36 36 ty 5 wr.heap.size 1 L.length L.length ⟨g, o, none⟩ L.length cap _ 5 (L.map fun b => Value.int .u8 (b.toNat : Int)) Tryd.underlying36 hs1 hl2
      (by rw [List.length_map]; exact (Nat.min_self _).symm) (fun j v hv => by
        obtain ⟨b, hb, rfl⟩ := by simpa using hv
        have hj : j < L.length := by
          rcases Nat.lt_or_ge j L.length with h' | h'
          · exact h'
          · rw [List.getElem?_eq_none h'] at hb; cases hb
        rw [List.getElem?_eq_getElem hj] at hb
        have hb' : L[j] = b := by injection hb
        rw [← hb', ← hin1 j hj]
        unfold Addr.add
        by_cases e : j = 0
        · simp [e]
        · simp [e]) (by rw [List.length_map, hM1]; omega) (fun v hv => by obtain ⟨b, _, rfl⟩ := List.mem_map.1 hv; rfl)
    rw [List.length_map] at hrun
    refine ⟨W1.setRow wr.heap.size (M.toList.take 1 ++ (L.map fun b => Value.int .u8 (b.toNat : Int)) ++ M.toList.drop (1 + L.length)).toArray, fun d hd => ?_, ?_, ?_⟩
    · rcases hd with hd | rfl
      · rw [hd] at h0; simp at h0
      · exact hrun
    · intro _
      refine ⟨wr.heap.size, 0, rfl, ?_, fun j hj => ?_⟩
      · have := hl2.lt
        simpa [World.setRow] using this
      · have hrow : Lies (W1.setRow wr.heap.size (M.toList.take 1 ++ (L.map fun b => Value.int .u8 (b.toNat : Int)) ++ M.toList.drop (1 + L.length)).toArray) wr.heap.size 5 (M.toList.take 1 ++ (L.map fun b => Value.int .u8 (b.toNat : Int)) ++ M.toList.drop (1 + L.length)).toArray := by
          unfold Lies at hl2 ⊢
          simp [World.setRow, Array.getElem?_modify, hl2]
        have ht : M.toList.take 1 = [.int .u8 (c.toNat : Int)] := by
          rw [List.take_one]
          have : M.toList.head? = M[0]? := by rw [List.head?_eq_getElem?]; simp
          rw [this, hM0]
          rfl
        rw [hrow.cell, ht, Nat.zero_add]
        cases j with
        | zero => rfl
        | succ j =>
          have hj' : j < L.length := by simpa using hj
          rw [List.append_assoc, List.singleton_append, List.getElem?_toArray, List.getElem?_cons_succ, List.getElem?_append_left (by simpa using hj')]
          simp [hj']
    · refine hbel.trans ⟨rfl, rfl, rfl, by simp [World.setRow], fun k hk => ?_⟩
      simp only [World.setRow, Array.getElem?_modify]
      rw [if_neg (by omega)]
theorem letter_val (d : Nat) : ((UInt8.ofNat (65 + d % 26)).toNat : Int) = 65 + (d : Int) % 26 := by
  rw [(cap_of (d % 26) (by omega)).2]
  omega
set_option maxRecDepth 100000 in
set_option maxHeartbeats 1600000 in
theorem letters_any (col : Nat) (w : World) (hc : col ≤ 18277) :
    Calls Tryd.prog 92 #[.int .i64 col] w fun e w' => e = .returned (.string ⟨(lets (col + 1)).toArray⟩) ∧ Below w.heap.size w w' := by
  have hci : (col : Int) ≤ 18277 := by omega
  have hl3 := lets_len (col + 1) (by omega)
  go_enter Tryd.func92, Tryd.ntmps92
  go_wp2_with fail
  refine (adRight_yes 0 (col : Int) _ (by omega) (by omega) (by omega) hci).mono ?_
  rintro e w1 ⟨rfl, rfl⟩
  go_wp2_with fail
  go_loopw [0, 3] (fun i v wr => ∃ (c : Nat) (A : Option Addr) (L : Bs) (cap : Nat), i = .int .i64 ((c : Int) - 1) ∧ v = .slice A L.length cap ∧ c ≤ 18278 ∧ Hid (lets c ++ L = lets (col + 1)) ∧ Hid (InBytes wr A L) ∧ Hid (Below w.heap.size w wr)) (fun i _ _ => (intOf i + 1).toNat)
  case atStart => exact ⟨col + 1, none, [], 0, by go_num, rfl, by omega, Lib.hid (by simp), Lib.hid (fun h => by simp at h), Lib.hid (Below.refl _ _)⟩
  case round =>
    obtain ⟨c, A, L, cap, rfl, rfl, hcc, HL, HI, HB⟩ := hrel
    cases c with
    | zero =>
      have hconv := InBytes.conv HI.out cap
      have HE : Hid (L = lets (col + 1)) := Lib.hid (by have := HL.out; rw [lets_zero] at this; exact this)
      rw [show ((0 : Nat) : Int) - 1 = -1 from rfl]
      go_wp2_with fail
      go_ret
      exact ⟨congrArg (fun l : Bs => Ending.returned (.string ⟨l.toArray⟩)) HE.out, HB.out⟩
    | succ d =>
      rw [show ((d + 1 : Nat) : Int) - 1 = (d : Int) by omega]
      have hLl : L.length ≤ 2 := by
        have h1 := congrArg List.length HL.out
        rw [List.length_append] at h1
        have := lets_pos (d + 1) (by omega)
        omega
      have HL2 : Hid (lets (d / 26) ++ (UInt8.ofNat (65 + d % 26) :: L) = lets (col + 1)) := Lib.hid (by
        rw [← HL.out, lets_step (d + 1) (by omega)]
        simp)
      obtain ⟨W, hmk, hc0, hf0, hcp⟩ := longer wr A L cap HI.out hLl
      obtain ⟨W2, hcp, hin2, hb2⟩ := hcp (UInt8.ofNat (65 + d % 26)) 3
      have HIN2 := Lib.hid hin2
      have HB2 := Lib.hid (HB.out.trans (hb2.mono HB.out.size))
      rw [letter_val d] at hcp
      have hdl : ((d : Int)) ≤ 18277 := by omega
      have HCP := Lib.hid hcp
      clear hcp hin2 hb2 HL HI HB
      rcases Nat.eq_zero_or_pos L.length with h0 | h0
      · obtain rfl : L = [] := List.eq_nil_of_length_eq_zero h0
        simp only [List.length_nil, Int.natCast_zero, Int.zero_add, Nat.zero_add] at *
        have hcp := HCP.out 0 (.inl trivial)
        clear h0
        go_wp2_with fail
        go_roundw
        case rel => exact ⟨d / 26, _, [_], _, by go_num, rfl, by omega, HL2, HIN2, HB2⟩
        case measure => simp [intOf]; omega
      · have hne : ¬ L.length = 0 := by omega
        have hcp := HCP.out 1 (.inr rfl)
        go_wp2_with fail
        go_roundw
        case rel => exact ⟨d / 26, _, _ :: L, _, by go_num, by simp; rfl, by omega, HL2, HIN2, HB2⟩
        case measure => simp [intOf]; omega
end Go.Proofs.YtcgdeoldgnjdeaaDoor
