/-
  counterpanelaw32.CsvFull: the walk.
-/
import Derived.Test.YteccjdclkcipbaaDoorCsv9
import Derived.Test.YteccjdclkcipbaaDoorCsv14
import Derived.Test.YteccjdclkcipbaaDoorCsv17
namespace Go.Proofs.YteccjdclkcipbaaDoor
open Go.RowKit Go.Shelf

theorem ReadPost.full {w : World} {R : RRes} {e : Ending} {w' : World} (h : ReadPost R w e w') (a b k : Nat) (vs : List Val) (f : Int) (hR : R = ((a, b, vs), k, f)) : ∃ A c, e = .returned (.tuple #[.agg #[.int .i64 (a : Int), .int .i64 (b : Int), .slice A vs.length c], .int .i64 (k : Int), .int .i64 f]) ∧ VSl w' A vs ∧ Below w.heap.size w w' := by
  subst hR
  exact h
def commas (j : Nat) : Bs := List.replicate j 44
theorem commas_succ (j : Nat) : commas j ++ [44] = commas (j + 1) := List.replicate_succ'.symm
theorem commas_len (j : Nat) : (commas j).length = j := List.length_replicate
theorem full_commas (n i : Nat) : fullB (n + 1) i ++ commas n ++ [10] = fullB (n + 1) (i + 1) := by rw [fullB_succ, List.append_assoc]; rfl
set_option maxRecDepth 100000 in
set_option maxHeartbeats 6400000 in
theorem csvFull_any (u0 u1 : Nat) (w : World) (hu0 : u0 ≤ 255) (hu1 : u1 ≤ 255) (hT : Tab w) (hP : PowTab w) (hm : MaxVar w) :
    Calls Tryd.prog 10 #[.int .u8 (u0 : Int), .int .u8 (u1 : Int)] w fun e w' => e = .returned (.bool true) ∧ Below w.heap.size w w' := by
  have C0 := Lib.hid (awake32_any w hT hP hm)
  have HT := Lib.hid hT
  have HM := Lib.hid hm
  clear hT hP hm
  obtain ⟨m, hm⟩ : ∃ m, u0 % 64 = m := ⟨_, rfl⟩
  have hm63 : m ≤ 63 := by omega
  have hrem : Int.tmod (u0 : Int) 64 = (m : Int) := by rw [Int.tmod_eq_emod_of_nonneg (by omega)]; omega
  obtain ⟨rows, hrows⟩ : ∃ rows, 4096 / (m + 1) = rows := ⟨_, rfl⟩
  have hquo : (4096 : Int) / (1 + (m : Int)) = (rows : Int) := by rw [← hrows, Int.add_comm]; rfl
  obtain ⟨d1, d2, d3⟩ := div_bounds (m + 1) (by omega) (by omega)
  have hf1 := Lib.hid (full_fits (m + 1) (by omega) (by omega))
  have hf2 := Lib.hid (fun t => full_more (m + 1) (by omega) (by omega) t)
  rw [hrows] at d1 d2 d3 hf1 hf2
  have hrl : rows ≤ 4096 := Nat.le_trans (Nat.le_mul_of_pos_right rows (by omega)) d2
  clear hm hrows
  go_enter Tryd.func10, Tryd.ntmps10
  go_wp2_with fail
  refine (C0.out).mono ?_
  rintro e w1 ⟨rfl, hb1⟩
  have HB1 := Lib.hid hb1
  clear hb1 C0
  go_wp2_with fail
  go_loopw [7, 8] (fun v7 v8 wr => ∃ j : Nat, v7 = .string ⟨(commas j).toArray⟩ ∧ v8 = .int .i64 ((1 + j : Nat) : Int) ∧ j ≤ m ∧ wr = w1) (fun _ v8 _ => m + 1 - (intOf v8).toNat)
  case atStart => exact ⟨0, rfl, rfl, Nat.zero_le _, rfl⟩
  case round =>
    obtain ⟨j, rfl, rfl, hj, rfl⟩ := hrel
    have hlen : (commas j).length = j := commas_len j
    by_cases hlt : j < m
    · have hlt2 : ((1 + j : Nat) : Int) < 1 + (m : Int) := by omega
      have hrep := Lib.hid (commas_succ j)
      go_wp2_with fail
      go_roundw
      case rel => exact ⟨j + 1, by rw [← hrep.out], by go_num, by omega, trivial⟩
      case measure => simp [intOf]; omega
    · obtain rfl : j = m := by omega
      have hlt2 : ¬ ((1 + j : Nat) : Int) < 1 + (j : Int) := by omega
      go_wp2_with fail
      go_loopw [9, 10] (fun v9 v10 wx => ∃ i : Nat, v9 = .string ⟨(fullB (j + 1) i).toArray⟩ ∧ v10 = .int .i64 (i : Int) ∧ i ≤ rows ∧ wx = wr) (fun _ v10 _ => rows + 1 - (intOf v10).toNat)
      case atStart => exact ⟨0, rfl, rfl, Nat.zero_le _, rfl⟩
      case round =>
        obtain ⟨i, rfl, rfl, hi, rfl⟩ := hrel
        have hlenB : (fullB (j + 1) i).length = i * (j + 1) := fullB_len j i
        have hle := Nat.mul_le_mul_right (j + 1) hi
        generalize i * (j + 1) = L at hlenB hle
        by_cases hlt3 : i < rows
        · have hrep := Lib.hid (full_commas j i)
          have hlt4 := Lib.hid hlt3
          go_wp2_with fail
          go_roundw
          case rel => exact ⟨i + 1, by rw [← hrep.out, List.append_assoc], by go_num, Nat.succ_le_of_lt hlt4.out, trivial⟩
          case measure => simp [intOf]; omega
        · obtain rfl : i = rows := by omega
          rw [← hlenB] at hle
          have hfit : (fullB (j + 1) i).length ≤ 4096 := by omega
          have CR := Lib.hid (read32_any (fullB (j + 1) i) wr (by omega) (HT.out.next HB1.out) (HM.out.next HB1.out))
          have CR2 : Hid (∀ (t : Bs) (W : World), (t = [10] ∨ t = [10, 120, 10]) → Tab W → MaxVar W → Calls Tryd.prog 39 #[.string ⟨(fullB (j + 1) i ++ (commas j ++ t)).toArray⟩] W (ReadPost ((0, 0, []), i + 1, 5) W)) := Lib.hid (fun t W ht hT hM => by
            obtain ⟨t', e⟩ : ∃ t', fullB (j + 1) i ++ (commas j ++ t) = fullB (j + 1) (i + 1) ++ t' := by
              rcases ht with rfl | rfl
              · exact ⟨[], by rw [← full_commas, List.append_nil, List.append_assoc]⟩
              · exact ⟨[120, 10], by rw [← full_commas]; simp⟩
            have h1 := read32_any (fullB (j + 1) i ++ (commas j ++ t)) W (by rw [List.length_append, List.length_append, hlen]; rcases ht with rfl | rfl <;> (simp only [List.length_cons, List.length_nil]; omega)) hT hM
            have h2 : cRead (fullB (j + 1) i ++ (commas j ++ t)) = ((0, 0, []), i + 1, 5) := by rw [e, hf2.out]
            rw [h2] at h1
            exact h1)
          clear hlenB hle
          go_wp2_with fail
          refine (CR.out).mono ?_
          intro e w2 hpost
          obtain ⟨A, c, rfl, hv, hb⟩ := hpost.full _ _ _ _ _ hf1.out
          have hlr : (List.replicate (i * (j + 1)) blankV).length = i * (j + 1) := List.length_replicate
          rw [hlr] at *
          have HB2 := Lib.hid (HB1.out.trans (hb.mono HB1.out.size))
          clear hb hpost hv CR HB1 hf1
          have HL : Hid (Lies (w2.alloc (.cells #[.int .i64 (i : Int), .int .i64 (1 + (j : Int)), .slice A (i * (j + 1)) c] 68)) w2.heap.size 68 #[.int .i64 (i : Int), .int .i64 (1 + (j : Int)), .slice A (i * (j + 1)) c]) := Lib.hid (Lies.new w2 _ _)
          have HB3 : Hid (Below w.heap.size w (w2.alloc (.cells #[.int .i64 (i : Int), .int .i64 (1 + (j : Int)), .slice A (i * (j + 1)) c] 68))) := Lib.hid (HB2.out.alloc HB2.out.size _)
          have hsz2 := HB2.out.size
          have hpr : (i : Int) * (1 + (j : Int)) = ((i * (j + 1) : Nat) : Int) := by rw [Int.natCast_mul, Int.natCast_add, Int.add_comm]; rfl
          have hwr : wrap64 ((i : Int) * (1 + (j : Int))) = (i : Int) * (1 + (j : Int)) := by
            rw [hpr]
            have h4 : i * (j + 1) ≤ 4096 := d2
            generalize i * (j + 1) = Z at h4 ⊢
            unfold wrap64
            omega
          clear hf2 hpr
          go_wp2_with fail
          · with_reducible refine (CR2.out [10, 120, 10] _ (.inr rfl) (HT.out.next HB3.out) (HM.out.next HB3.out)).mono ?_
            intro e w3 hpost
            obtain ⟨A3, c3, rfl, -, hb⟩ := hpost.full _ _ _ _ _ rfl
            have RF := HL.out.next hb
            have HB4 := Lib.hid (HB3.out.trans (hb.mono HB3.out.size))
            obtain ⟨r0, r1, r2⟩ := (⟨RF.cell 0, RF.cell 1, RF.cell 2⟩ : _ ∧ _ ∧ _)
            simp only [List.getElem?_toArray, List.getElem?_cons_zero, List.getElem?_cons_succ] at r0 r1 r2
            have rf0 := RF.frozen 0
            have rf1 := RF.frozen 1
            have rf2 := RF.frozen 2
            clear RF hb hpost CR2 HL HB3
            go_wp2_with fail
            go_ret
            refine ⟨rfl, ?_⟩
            exact ((HB4.out.setCell (p := ⟨_, _, none⟩) hsz2 _).setCell (p := ⟨_, _, none⟩) hsz2 _).setCell (p := ⟨_, _, none⟩) hsz2 _
          · with_reducible refine (CR2.out [10] _ (.inl rfl) (HT.out.next HB3.out) (HM.out.next HB3.out)).mono ?_
            intro e w3 hpost
            obtain ⟨A3, c3, rfl, -, hb⟩ := hpost.full _ _ _ _ _ rfl
            have RF := HL.out.next hb
            have HB4 := Lib.hid (HB3.out.trans (hb.mono HB3.out.size))
            obtain ⟨r0, r1, r2⟩ := (⟨RF.cell 0, RF.cell 1, RF.cell 2⟩ : _ ∧ _ ∧ _)
            simp only [List.getElem?_toArray, List.getElem?_cons_zero, List.getElem?_cons_succ] at r0 r1 r2
            have rf0 := RF.frozen 0
            have rf1 := RF.frozen 1
            have rf2 := RF.frozen 2
            clear RF hb hpost CR2 HL HB3
            go_wp2_with fail
            go_ret
            refine ⟨rfl, ?_⟩
            exact ((HB4.out.setCell (p := ⟨_, _, none⟩) hsz2 _).setCell (p := ⟨_, _, none⟩) hsz2 _).setCell (p := ⟨_, _, none⟩) hsz2 _
end Go.Proofs.YteccjdclkcipbaaDoor
