/-
  counterpaneref31.plain, upper, general: what they return.
-/
import Derived.Test.YteccjdclkcipbaaDoorPlMa
import Derived.Test.YteccjdclkcipbaaDoorMask4
namespace Go.Proofs.YteccjdclkcipbaaDoor
open Go.RowKit

def plL : Bs := [32, 36, 45, 43, 40, 41, 47, 58]
theorem plainC_any (c : UInt8) : (plL.drop 0).any (fun d => d == c) = plainC c := by
  have e : ∀ d : UInt8, (d == c) = (c == d) := fun d => by rw [Bool.eq_iff_iff, beq_iff_eq, beq_iff_eq]; exact eq_comm
  simp only [plL, List.drop_zero, List.any_cons, List.any_nil, e, plainC, Bool.or_false, Bool.or_assoc]
theorem u8_eq_l (c d : UInt8) (n : Int) (hn : (d.toNat : Int) = n) : (n == (c.toNat : Int)) = (d == c) := by
  rw [Bool.eq_iff_iff, beq_iff_eq, beq_iff_eq]
  exact ⟨fun h => UInt8.toNat.inj (by omega), fun h => by rw [← h, hn]⟩
set_option maxRecDepth 100000 in
set_option maxHeartbeats 3200000 in
theorem plain31_any (c : UInt8) (w : World) :
    Calls Tryd.prog 67 #[.int .u8 (c.toNat : Int)] w fun e w' => e = .returned (.bool (plainC c)) ∧ w = w' := by
  have HQ := Lib.hid (plainC_any c)
  go_enter Tryd.func67, Tryd.ntmps67
  go_wp2_with fail
  go_loop [4] (fun v => ∃ k : Nat, k ≤ 8 ∧ v = .int .i64 (k : Int) ∧ Hid ((plL.drop k).any (fun d => d == c) = plainC c)) (fun v => 8 - (intOf v).toNat)
  case atStart => exact ⟨0, by omega, rfl, HQ⟩
  case round =>
    obtain ⟨k, hk, rfl, hq⟩ := hrel
    clear HQ
    rcases (by omega : k = 0 ∨ k = 1 ∨ k = 2 ∨ k = 3 ∨ k = 4 ∨ k = 5 ∨ k = 6 ∨ k = 7 ∨ k = 8) with rfl | rfl | rfl | rfl | rfl | rfl | rfl | rfl | rfl
    · have b := u8_eq_l c 32 32 rfl
      cases hc : (((32 : UInt8)) == c)
      · rw [hc] at b
        have hq2 : Hid ((plL.drop 1).any (fun d => d == c) = plainC c) := Lib.hid (by
          rw [← hq.out]
          have e : plL.drop 0 = 32 :: plL.drop 1 := rfl
          rw [e, List.any_cons, hc, Bool.false_or])
        clear hq hc
        go_wp2_with fail
        go_round
        case rel => exact ⟨1, by omega, by go_num, hq2⟩
        case measure => simp [intOf]
      · rw [hc] at b
        have hq2 : Hid (plainC c = true) := Lib.hid (by
          rw [← hq.out]
          have e : plL.drop 0 = 32 :: plL.drop 1 := rfl
          rw [e, List.any_cons, hc, Bool.true_or])
        clear hq hc
        go_wp2_with fail
        go_ret
        exact ⟨congrArg (fun b => Ending.returned (.bool b)) hq2.out.symm, rfl⟩
    · have b := u8_eq_l c 36 36 rfl
      cases hc : (((36 : UInt8)) == c)
      · rw [hc] at b
        have hq2 : Hid ((plL.drop 2).any (fun d => d == c) = plainC c) := Lib.hid (by
          rw [← hq.out]
          have e : plL.drop 1 = 36 :: plL.drop 2 := rfl
          rw [e, List.any_cons, hc, Bool.false_or])
        clear hq hc
        go_wp2_with fail
        go_round
        case rel => exact ⟨2, by omega, by go_num, hq2⟩
        case measure => simp [intOf]
      · rw [hc] at b
        have hq2 : Hid (plainC c = true) := Lib.hid (by
          rw [← hq.out]
          have e : plL.drop 1 = 36 :: plL.drop 2 := rfl
          rw [e, List.any_cons, hc, Bool.true_or])
        clear hq hc
        go_wp2_with fail
        go_ret
        exact ⟨congrArg (fun b => Ending.returned (.bool b)) hq2.out.symm, rfl⟩
    · have b := u8_eq_l c 45 45 rfl
      cases hc : (((45 : UInt8)) == c)
      · rw [hc] at b
        have hq2 : Hid ((plL.drop 3).any (fun d => d == c) = plainC c) := Lib.hid (by
          rw [← hq.out]
          have e : plL.drop 2 = 45 :: plL.drop 3 := rfl
          rw [e, List.any_cons, hc, Bool.false_or])
        clear hq hc
        go_wp2_with fail
        go_round
        case rel => exact ⟨3, by omega, by go_num, hq2⟩
        case measure => simp [intOf]
      · rw [hc] at b
        have hq2 : Hid (plainC c = true) := Lib.hid (by
          rw [← hq.out]
          have e : plL.drop 2 = 45 :: plL.drop 3 := rfl
          rw [e, List.any_cons, hc, Bool.true_or])
        clear hq hc
        go_wp2_with fail
        go_ret
        exact ⟨congrArg (fun b => Ending.returned (.bool b)) hq2.out.symm, rfl⟩
    · have b := u8_eq_l c 43 43 rfl
      cases hc : (((43 : UInt8)) == c)
      · rw [hc] at b
        have hq2 : Hid ((plL.drop 4).any (fun d => d == c) = plainC c) := Lib.hid (by
          rw [← hq.out]
          have e : plL.drop 3 = 43 :: plL.drop 4 := rfl
          rw [e, List.any_cons, hc, Bool.false_or])
        clear hq hc
        go_wp2_with fail
        go_round
        case rel => exact ⟨4, by omega, by go_num, hq2⟩
        case measure => simp [intOf]
      · rw [hc] at b
        have hq2 : Hid (plainC c = true) := Lib.hid (by
          rw [← hq.out]
          have e : plL.drop 3 = 43 :: plL.drop 4 := rfl
          rw [e, List.any_cons, hc, Bool.true_or])
        clear hq hc
        go_wp2_with fail
        go_ret
        exact ⟨congrArg (fun b => Ending.returned (.bool b)) hq2.out.symm, rfl⟩
    · have b := u8_eq_l c 40 40 rfl
      cases hc : (((40 : UInt8)) == c)
      · rw [hc] at b
        have hq2 : Hid ((plL.drop 5).any (fun d => d == c) = plainC c) := Lib.hid (by
          rw [← hq.out]
          have e : plL.drop 4 = 40 :: plL.drop 5 := rfl
          rw [e, List.any_cons, hc, Bool.false_or])
        clear hq hc
        go_wp2_with fail
        go_round
        case rel => exact ⟨5, by omega, by go_num, hq2⟩
        case measure => simp [intOf]
      · rw [hc] at b
        have hq2 : Hid (plainC c = true) := Lib.hid (by
          rw [← hq.out]
          have e : plL.drop 4 = 40 :: plL.drop 5 := rfl
          rw [e, List.any_cons, hc, Bool.true_or])
        clear hq hc
        go_wp2_with fail
        go_ret
        exact ⟨congrArg (fun b => Ending.returned (.bool b)) hq2.out.symm, rfl⟩
    · have b := u8_eq_l c 41 41 rfl
      cases hc : (((41 : UInt8)) == c)
      · rw [hc] at b
        have hq2 : Hid ((plL.drop 6).any (fun d => d == c) = plainC c) := Lib.hid (by
          rw [← hq.out]
          have e : plL.drop 5 = 41 :: plL.drop 6 := rfl
          rw [e, List.any_cons, hc, Bool.false_or])
        clear hq hc
        go_wp2_with fail
        go_round
        case rel => exact ⟨6, by omega, by go_num, hq2⟩
        case measure => simp [intOf]
      · rw [hc] at b
        have hq2 : Hid (plainC c = true) := Lib.hid (by
          rw [← hq.out]
          have e : plL.drop 5 = 41 :: plL.drop 6 := rfl
          rw [e, List.any_cons, hc, Bool.true_or])
        clear hq hc
        go_wp2_with fail
        go_ret
        exact ⟨congrArg (fun b => Ending.returned (.bool b)) hq2.out.symm, rfl⟩
    · have b := u8_eq_l c 47 47 rfl
      cases hc : (((47 : UInt8)) == c)
      · rw [hc] at b
        have hq2 : Hid ((plL.drop 7).any (fun d => d == c) = plainC c) := Lib.hid (by
          rw [← hq.out]
          have e : plL.drop 6 = 47 :: plL.drop 7 := rfl
          rw [e, List.any_cons, hc, Bool.false_or])
        clear hq hc
        go_wp2_with fail
        go_round
        case rel => exact ⟨7, by omega, by go_num, hq2⟩
        case measure => simp [intOf]
      · rw [hc] at b
        have hq2 : Hid (plainC c = true) := Lib.hid (by
          rw [← hq.out]
          have e : plL.drop 6 = 47 :: plL.drop 7 := rfl
          rw [e, List.any_cons, hc, Bool.true_or])
        clear hq hc
        go_wp2_with fail
        go_ret
        exact ⟨congrArg (fun b => Ending.returned (.bool b)) hq2.out.symm, rfl⟩
    · have b := u8_eq_l c 58 58 rfl
      cases hc : (((58 : UInt8)) == c)
      · rw [hc] at b
        have hq2 : Hid ((plL.drop 8).any (fun d => d == c) = plainC c) := Lib.hid (by
          rw [← hq.out]
          have e : plL.drop 7 = 58 :: plL.drop 8 := rfl
          rw [e, List.any_cons, hc, Bool.false_or])
        clear hq hc
        go_wp2_with fail
        go_round
        case rel => exact ⟨8, by omega, by go_num, hq2⟩
        case measure => simp [intOf]
      · rw [hc] at b
        have hq2 : Hid (plainC c = true) := Lib.hid (by
          rw [← hq.out]
          have e : plL.drop 7 = 58 :: plL.drop 8 := rfl
          rw [e, List.any_cons, hc, Bool.true_or])
        clear hq hc
        go_wp2_with fail
        go_ret
        exact ⟨congrArg (fun b => Ending.returned (.bool b)) hq2.out.symm, rfl⟩
    · have hq2 : Hid (plainC c = false) := Lib.hid (by rw [← hq.out]; rfl)
      clear hq
      go_wp2_with fail
      go_ret
      exact ⟨congrArg (fun b => Ending.returned (.bool b)) hq2.out.symm, rfl⟩
theorem up_int (c : UInt8) : (97 ≤ (c.toNat : Int) ∧ (c.toNat : Int) ≤ 122 ∧ ((up c).toNat : Int) = (c.toNat : Int) - 32) ∨ (¬ (97 ≤ (c.toNat : Int) ∧ (c.toNat : Int) ≤ 122) ∧ up c = c) := by
  have : ∀ n : Fin 256, (97 ≤ ((UInt8.ofNat n.val).toNat : Int) ∧ ((UInt8.ofNat n.val).toNat : Int) ≤ 122 ∧ ((up (UInt8.ofNat n.val)).toNat : Int) = ((UInt8.ofNat n.val).toNat : Int) - 32) ∨ (¬ (97 ≤ ((UInt8.ofNat n.val).toNat : Int) ∧ ((UInt8.ofNat n.val).toNat : Int) ≤ 122) ∧ up (UInt8.ofNat n.val) = UInt8.ofNat n.val) := by decide +kernel
  have h := this ⟨c.toNat, c.toNat_lt⟩
  simpa using h
theorem upper_any (c : UInt8) (w : World) :
    Calls Tryd.prog 99 #[.int .u8 (c.toNat : Int)] w fun e w' => e = .returned (.int .u8 ((up c).toNat : Int)) ∧ w = w' := by
  rcases up_int c with ⟨h1, h2, h3⟩ | ⟨h1, h2⟩
  · have H := Lib.hid h3
    clear h3
    go_enter Tryd.func99, Tryd.ntmps99
    go_wp2_with fail
    go_ret
    exact ⟨ret_int H.out.symm, rfl⟩
  · have H := Lib.hid h2
    clear h2
    by_cases h3 : 97 ≤ (c.toNat : Int)
    · have h4 : ¬ (c.toNat : Int) ≤ 122 := fun h => h1 ⟨h3, h⟩
      clear h1
      go_enter Tryd.func99, Tryd.ntmps99
      go_wp2_with fail
      go_ret
      exact ⟨congrArg (fun x : UInt8 => Ending.returned (.int .u8 (x.toNat : Int))) H.out.symm, rfl⟩
    · clear h1
      go_enter Tryd.func99, Tryd.ntmps99
      go_wp2_with fail
      go_ret
      exact ⟨congrArg (fun x : UInt8 => Ending.returned (.int .u8 (x.toNat : Int))) H.out.symm, rfl⟩
def genTo (l : Bs) (k : Nat) : Prop := ∀ j, j < k → (l[j]?).map up = generalW[j]?
theorem genTo_step {l : Bs} {k : Nat} {d : UInt8} (h : genTo l k) (hk : (l[k]?).map up = some d) (hd : generalW[k]? = some d) : genTo l (k + 1) := fun j hj => by
  rcases (by omega : j < k ∨ j = k) with h1 | rfl
  · exact h j h1
  · rw [hk, hd]
theorem gen_short (l : Bs) (h : l.length < 7) : isGen l = false := by
  unfold isGen
  rw [decide_eq_true h]
  rfl
theorem fold_gen (l : Bs) (h : ¬ l.length < 7) : (pFold (l.take 7) == generalW) = true ↔ genTo l 7 := by
  rw [beq_iff_eq]
  constructor
  · intro e j hj
    have h1 : (pFold (l.take 7))[j]? = generalW[j]? := by rw [e]
    unfold pFold at h1
    rw [List.getElem?_map, List.getElem?_take_of_lt hj] at h1
    exact h1
  · intro g
    apply List.ext_getElem?
    intro j
    unfold pFold
    rw [List.getElem?_map]
    rcases Nat.lt_or_ge j 7 with hj | hj
    · rw [List.getElem?_take_of_lt hj]
      exact g j hj
    · rw [List.getElem?_eq_none (by rw [List.length_take]; omega), List.getElem?_eq_none (by exact hj)]
      rfl
theorem gen_ne (l : Bs) (k : Nat) (c d : UInt8) (hk : k < 7) (hl : l[k]? = some c) (hd : generalW[k]? = some d) (hne : up c ≠ d) : isGen l = false := by
  by_cases h7 : l.length < 7
  · exact gen_short l h7
  · unfold isGen
    have : (pFold (l.take 7) == generalW) = false := by
      rw [Bool.eq_false_iff]
      intro e
      have := (fold_gen l h7).1 e k hk
      rw [hl, hd] at this
      exact hne (Option.some.inj this)
    rw [this, Bool.and_false, Bool.false_and]
theorem gen_all (l : Bs) (h7 : ¬ l.length < 7) (g : genTo l 7) : isGen l = !(decide (7 < l.length) && ((l[7]?).map isLetter).getD false) := by
  unfold isGen
  rw [(fold_gen l h7).2 g, decide_eq_false h7]
  rfl
theorem letter_up (c : UInt8) : isLetter c = (decide (65 ≤ ((up c).toNat : Int)) && decide (((up c).toNat : Int) ≤ 90)) := by
  have : ∀ n : Fin 256, isLetter (UInt8.ofNat n.val) = (decide (65 ≤ ((up (UInt8.ofNat n.val)).toNat : Int)) && decide (((up (UInt8.ofNat n.val)).toNat : Int) ≤ 90)) := by decide +kernel
  have h := this ⟨c.toNat, c.toNat_lt⟩
  simpa using h
set_option maxRecDepth 100000 in
set_option maxHeartbeats 6400000 in
theorem general31_any (l : Bs) (a : Nat) (w : World) (ha : a < l.length) (hl : l.length ≤ 1000000) :
    Calls Tryd.prog 68 #[.string ⟨l.toArray⟩, .int .i64 (a : Int)] w fun e w' => e = .returned (.bool (isGen (l.drop a))) ∧ ∃ n, w' = w.drewN n := by
  have HG0 : Hid (genTo (l.drop a) 0) := Lib.hid (fun j hj => by omega)
  have hld : (l.drop a).length = l.length - a := List.length_drop
  have HLD := Lib.hid hld
  have CU := Lib.hid (fun c W => upper_any c W)
  clear hld
  go_enter Tryd.func68, Tryd.ntmps68
  go_wp2_with fail
  go_loopw [6] (fun v wr => ∃ k : Nat, k ≤ 7 ∧ a + k ≤ l.length ∧ v = .int .i64 (k : Int) ∧ Hid (genTo (l.drop a) k) ∧ Hid (∃ n, wr = w.drewN n)) (fun v _ => 7 - (intOf v).toNat)
  case atStart => exact ⟨0, by omega, by omega, rfl, HG0, Lib.hid ⟨0, rfl⟩⟩
  case round =>
    obtain ⟨k, hk, hal, rfl, hg, hw⟩ := hrel
    clear HG0
    rcases (by omega : k = 0 ∨ k = 1 ∨ k = 2 ∨ k = 3 ∨ k = 4 ∨ k = 5 ∨ k = 6 ∨ k = 7) with rfl | rfl | rfl | rfl | rfl | rfl | rfl | rfl
    · by_cases hlt : a < l.length
      · have hget : (l.drop a)[0]? = some l[a] := by rw [List.getElem?_drop]; exact List.getElem?_eq_getElem hlt
        have hi2 : (0 : Int) ≤ (a : Int) := by omega
        have hgd : decide ((l.length : Int) ≤ (a : Int)) = false := decide_eq_false (by omega)
        have hgd2 : ¬ (l.length : Int) ≤ (a : Int) := by omega
        have hi1 : IntKind.i64.wrap (a : Int) = (a : Int) := IntWalk.i64_in _ (by omega)
        have hi1b : IntKind.i64.wrap ((a : Int) + 0) = (a : Int) := by rw [Int.add_zero]; exact hi1
        by_cases hu : up l[a] = 71
        · have hg2 : Hid (genTo (l.drop a) 1) := Lib.hid (genTo_step hg.out (d := 71) (by rw [hget]; simp [hu]) rfl)
          have b : (((up l[a]).toNat : Int) != 71) = false := by rw [hu]; rfl
          clear hg hget hu
          go_wp2_with fail
          go_quiet ((go_at_call 99; exact quiet_left (CU.out _ _)))
          go_wp2_with fail
          go_roundw
          case rel => exact ⟨1, by omega, by omega, by go_num, hg2, Lib.hid (by obtain ⟨q, hq⟩ := hw.out; exact ⟨q + nq, by rw [hq, World.drewN_drewN]⟩)⟩
          case measure => simp [intOf]
        · have hg2 : Hid (isGen (l.drop a) = false) := Lib.hid (gen_ne _ 0 _ 71 (by omega) hget rfl hu)
          have b : (((up l[a]).toNat : Int) != 71) = true := by
            rw [bne_iff_ne]
            intro e
            exact hu (UInt8.toNat.inj (by show (up l[a]).toNat = 71; omega))
          clear hg hget hu
          go_wp2_with fail
          go_quiet ((go_at_call 99; exact quiet_left (CU.out _ _)))
          go_wp2_with fail
          go_ret
          exact ⟨congrArg (fun b => Ending.returned (.bool b)) hg2.out.symm, by obtain ⟨q, hq⟩ := hw.out; exact ⟨q + nq, by rw [hq, World.drewN_drewN]⟩⟩
      · exact absurd ha hlt
    · by_cases hlt : a + 1 < l.length
      · have hget : (l.drop a)[1]? = some l[a + 1] := by rw [List.getElem?_drop]; exact List.getElem?_eq_getElem hlt
        have hi2 : (0 : Int) ≤ (a : Int) + 1 := by omega
        have hgd : decide ((l.length : Int) ≤ (a : Int) + 1) = false := decide_eq_false (by omega)
        have hgd2 : ¬ (l.length : Int) ≤ (a : Int) + 1 := by omega
        have hi1 : IntKind.i64.wrap ((a : Int) + 1) = (a : Int) + 1 := IntWalk.i64_in _ (by omega)
        have hi3 : ((a : Int) + 1).toNat = a + 1 := by omega
        by_cases hu : up l[a + 1] = 69
        · have hg2 : Hid (genTo (l.drop a) 2) := Lib.hid (genTo_step hg.out (d := 69) (by rw [hget]; simp [hu]) rfl)
          have b : (((up l[a + 1]).toNat : Int) != 69) = false := by rw [hu]; rfl
          clear hg hget hu
          go_wp2_with fail
          go_quiet ((go_at_call 99; exact quiet_left (CU.out _ _)))
          go_wp2_with fail
          go_roundw
          case rel => exact ⟨2, by omega, by omega, by go_num, hg2, Lib.hid (by obtain ⟨q, hq⟩ := hw.out; exact ⟨q + nq, by rw [hq, World.drewN_drewN]⟩)⟩
          case measure => simp [intOf]
        · have hg2 : Hid (isGen (l.drop a) = false) := Lib.hid (gen_ne _ 1 _ 69 (by omega) hget rfl hu)
          have b : (((up l[a + 1]).toNat : Int) != 69) = true := by
            rw [bne_iff_ne]
            intro e
            exact hu (UInt8.toNat.inj (by show (up l[a + 1]).toNat = 69; omega))
          clear hg hget hu
          go_wp2_with fail
          go_quiet ((go_at_call 99; exact quiet_left (CU.out _ _)))
          go_wp2_with fail
          go_ret
          exact ⟨congrArg (fun b => Ending.returned (.bool b)) hg2.out.symm, by obtain ⟨q, hq⟩ := hw.out; exact ⟨q + nq, by rw [hq, World.drewN_drewN]⟩⟩
      · have hg2 : Hid (isGen (l.drop a) = false) := Lib.hid (gen_short _ (by rw [HLD.out]; omega))
        have hi2 : (0 : Int) ≤ (a : Int) + 1 := by omega
        have hgd : decide ((l.length : Int) ≤ (a : Int) + 1) = true := decide_eq_true (by omega)
        have hi1 : IntKind.i64.wrap ((a : Int) + 1) = (a : Int) + 1 := IntWalk.i64_in _ (by omega)
        have hi3 : ((a : Int) + 1).toNat = a + 1 := by omega
        clear hg
        go_wp2_with fail
        go_quiet (fail)
        go_wp2_with fail
        go_ret
        exact ⟨congrArg (fun b => Ending.returned (.bool b)) hg2.out.symm, by obtain ⟨q, hq⟩ := hw.out; exact ⟨q + nq, by rw [hq, World.drewN_drewN]⟩⟩
    · by_cases hlt : a + 2 < l.length
      · have hget : (l.drop a)[2]? = some l[a + 2] := by rw [List.getElem?_drop]; exact List.getElem?_eq_getElem hlt
        have hi2 : (0 : Int) ≤ (a : Int) + 2 := by omega
        have hgd : decide ((l.length : Int) ≤ (a : Int) + 2) = false := decide_eq_false (by omega)
        have hgd2 : ¬ (l.length : Int) ≤ (a : Int) + 2 := by omega
        have hi1 : IntKind.i64.wrap ((a : Int) + 2) = (a : Int) + 2 := IntWalk.i64_in _ (by omega)
        have hi3 : ((a : Int) + 2).toNat = a + 2 := by omega
        by_cases hu : up l[a + 2] = 78
        · have hg2 : Hid (genTo (l.drop a) 3) := Lib.hid (genTo_step hg.out (d := 78) (by rw [hget]; simp [hu]) rfl)
          have b : (((up l[a + 2]).toNat : Int) != 78) = false := by rw [hu]; rfl
          clear hg hget hu
          go_wp2_with fail
          go_quiet ((go_at_call 99; exact quiet_left (CU.out _ _)))
          go_wp2_with fail
          go_roundw
          case rel => exact ⟨3, by omega, by omega, by go_num, hg2, Lib.hid (by obtain ⟨q, hq⟩ := hw.out; exact ⟨q + nq, by rw [hq, World.drewN_drewN]⟩)⟩
          case measure => simp [intOf]
        · have hg2 : Hid (isGen (l.drop a) = false) := Lib.hid (gen_ne _ 2 _ 78 (by omega) hget rfl hu)
          have b : (((up l[a + 2]).toNat : Int) != 78) = true := by
            rw [bne_iff_ne]
            intro e
            exact hu (UInt8.toNat.inj (by show (up l[a + 2]).toNat = 78; omega))
          clear hg hget hu
          go_wp2_with fail
          go_quiet ((go_at_call 99; exact quiet_left (CU.out _ _)))
          go_wp2_with fail
          go_ret
          exact ⟨congrArg (fun b => Ending.returned (.bool b)) hg2.out.symm, by obtain ⟨q, hq⟩ := hw.out; exact ⟨q + nq, by rw [hq, World.drewN_drewN]⟩⟩
      · have hg2 : Hid (isGen (l.drop a) = false) := Lib.hid (gen_short _ (by rw [HLD.out]; omega))
        have hi2 : (0 : Int) ≤ (a : Int) + 2 := by omega
        have hgd : decide ((l.length : Int) ≤ (a : Int) + 2) = true := decide_eq_true (by omega)
        have hi1 : IntKind.i64.wrap ((a : Int) + 2) = (a : Int) + 2 := IntWalk.i64_in _ (by omega)
        have hi3 : ((a : Int) + 2).toNat = a + 2 := by omega
        clear hg
        go_wp2_with fail
        go_quiet (fail)
        go_wp2_with fail
        go_ret
        exact ⟨congrArg (fun b => Ending.returned (.bool b)) hg2.out.symm, by obtain ⟨q, hq⟩ := hw.out; exact ⟨q + nq, by rw [hq, World.drewN_drewN]⟩⟩
    · by_cases hlt : a + 3 < l.length
      · have hget : (l.drop a)[3]? = some l[a + 3] := by rw [List.getElem?_drop]; exact List.getElem?_eq_getElem hlt
        have hi2 : (0 : Int) ≤ (a : Int) + 3 := by omega
        have hgd : decide ((l.length : Int) ≤ (a : Int) + 3) = false := decide_eq_false (by omega)
        have hgd2 : ¬ (l.length : Int) ≤ (a : Int) + 3 := by omega
        have hi1 : IntKind.i64.wrap ((a : Int) + 3) = (a : Int) + 3 := IntWalk.i64_in _ (by omega)
        have hi3 : ((a : Int) + 3).toNat = a + 3 := by omega
        by_cases hu : up l[a + 3] = 69
        · have hg2 : Hid (genTo (l.drop a) 4) := Lib.hid (genTo_step hg.out (d := 69) (by rw [hget]; simp [hu]) rfl)
          have b : (((up l[a + 3]).toNat : Int) != 69) = false := by rw [hu]; rfl
          clear hg hget hu
          go_wp2_with fail
          go_quiet ((go_at_call 99; exact quiet_left (CU.out _ _)))
          go_wp2_with fail
          go_roundw
          case rel => exact ⟨4, by omega, by omega, by go_num, hg2, Lib.hid (by obtain ⟨q, hq⟩ := hw.out; exact ⟨q + nq, by rw [hq, World.drewN_drewN]⟩)⟩
          case measure => simp [intOf]
        · have hg2 : Hid (isGen (l.drop a) = false) := Lib.hid (gen_ne _ 3 _ 69 (by omega) hget rfl hu)
          have b : (((up l[a + 3]).toNat : Int) != 69) = true := by
            rw [bne_iff_ne]
            intro e
            exact hu (UInt8.toNat.inj (by show (up l[a + 3]).toNat = 69; omega))
          clear hg hget hu
          go_wp2_with fail
          go_quiet ((go_at_call 99; exact quiet_left (CU.out _ _)))
          go_wp2_with fail
          go_ret
          exact ⟨congrArg (fun b => Ending.returned (.bool b)) hg2.out.symm, by obtain ⟨q, hq⟩ := hw.out; exact ⟨q + nq, by rw [hq, World.drewN_drewN]⟩⟩
      · have hg2 : Hid (isGen (l.drop a) = false) := Lib.hid (gen_short _ (by rw [HLD.out]; omega))
        have hi2 : (0 : Int) ≤ (a : Int) + 3 := by omega
        have hgd : decide ((l.length : Int) ≤ (a : Int) + 3) = true := decide_eq_true (by omega)
        have hi1 : IntKind.i64.wrap ((a : Int) + 3) = (a : Int) + 3 := IntWalk.i64_in _ (by omega)
        have hi3 : ((a : Int) + 3).toNat = a + 3 := by omega
        clear hg
        go_wp2_with fail
        go_quiet (fail)
        go_wp2_with fail
        go_ret
        exact ⟨congrArg (fun b => Ending.returned (.bool b)) hg2.out.symm, by obtain ⟨q, hq⟩ := hw.out; exact ⟨q + nq, by rw [hq, World.drewN_drewN]⟩⟩
    · by_cases hlt : a + 4 < l.length
      · have hget : (l.drop a)[4]? = some l[a + 4] := by rw [List.getElem?_drop]; exact List.getElem?_eq_getElem hlt
        have hi2 : (0 : Int) ≤ (a : Int) + 4 := by omega
        have hgd : decide ((l.length : Int) ≤ (a : Int) + 4) = false := decide_eq_false (by omega)
        have hgd2 : ¬ (l.length : Int) ≤ (a : Int) + 4 := by omega
        have hi1 : IntKind.i64.wrap ((a : Int) + 4) = (a : Int) + 4 := IntWalk.i64_in _ (by omega)
        have hi3 : ((a : Int) + 4).toNat = a + 4 := by omega
        by_cases hu : up l[a + 4] = 82
        · have hg2 : Hid (genTo (l.drop a) 5) := Lib.hid (genTo_step hg.out (d := 82) (by rw [hget]; simp [hu]) rfl)
          have b : (((up l[a + 4]).toNat : Int) != 82) = false := by rw [hu]; rfl
          clear hg hget hu
          go_wp2_with fail
          go_quiet ((go_at_call 99; exact quiet_left (CU.out _ _)))
          go_wp2_with fail
          go_roundw
          case rel => exact ⟨5, by omega, by omega, by go_num, hg2, Lib.hid (by obtain ⟨q, hq⟩ := hw.out; exact ⟨q + nq, by rw [hq, World.drewN_drewN]⟩)⟩
          case measure => simp [intOf]
        · have hg2 : Hid (isGen (l.drop a) = false) := Lib.hid (gen_ne _ 4 _ 82 (by omega) hget rfl hu)
          have b : (((up l[a + 4]).toNat : Int) != 82) = true := by
            rw [bne_iff_ne]
            intro e
            exact hu (UInt8.toNat.inj (by show (up l[a + 4]).toNat = 82; omega))
          clear hg hget hu
          go_wp2_with fail
          go_quiet ((go_at_call 99; exact quiet_left (CU.out _ _)))
          go_wp2_with fail
          go_ret
          exact ⟨congrArg (fun b => Ending.returned (.bool b)) hg2.out.symm, by obtain ⟨q, hq⟩ := hw.out; exact ⟨q + nq, by rw [hq, World.drewN_drewN]⟩⟩
      · have hg2 : Hid (isGen (l.drop a) = false) := Lib.hid (gen_short _ (by rw [HLD.out]; omega))
        have hi2 : (0 : Int) ≤ (a : Int) + 4 := by omega
        have hgd : decide ((l.length : Int) ≤ (a : Int) + 4) = true := decide_eq_true (by omega)
        have hi1 : IntKind.i64.wrap ((a : Int) + 4) = (a : Int) + 4 := IntWalk.i64_in _ (by omega)
        have hi3 : ((a : Int) + 4).toNat = a + 4 := by omega
        clear hg
        go_wp2_with fail
        go_quiet (fail)
        go_wp2_with fail
        go_ret
        exact ⟨congrArg (fun b => Ending.returned (.bool b)) hg2.out.symm, by obtain ⟨q, hq⟩ := hw.out; exact ⟨q + nq, by rw [hq, World.drewN_drewN]⟩⟩
    · by_cases hlt : a + 5 < l.length
      · have hget : (l.drop a)[5]? = some l[a + 5] := by rw [List.getElem?_drop]; exact List.getElem?_eq_getElem hlt
        have hi2 : (0 : Int) ≤ (a : Int) + 5 := by omega
        have hgd : decide ((l.length : Int) ≤ (a : Int) + 5) = false := decide_eq_false (by omega)
        have hgd2 : ¬ (l.length : Int) ≤ (a : Int) + 5 := by omega
        have hi1 : IntKind.i64.wrap ((a : Int) + 5) = (a : Int) + 5 := IntWalk.i64_in _ (by omega)
        have hi3 : ((a : Int) + 5).toNat = a + 5 := by omega
        by_cases hu : up l[a + 5] = 65
        · have hg2 : Hid (genTo (l.drop a) 6) := Lib.hid (genTo_step hg.out (d := 65) (by rw [hget]; simp [hu]) rfl)
          have b : (((up l[a + 5]).toNat : Int) != 65) = false := by rw [hu]; rfl
          clear hg hget hu
          go_wp2_with fail
          go_quiet ((go_at_call 99; exact quiet_left (CU.out _ _)))
          go_wp2_with fail
          go_roundw
          case rel => exact ⟨6, by omega, by omega, by go_num, hg2, Lib.hid (by obtain ⟨q, hq⟩ := hw.out; exact ⟨q + nq, by rw [hq, World.drewN_drewN]⟩)⟩
          case measure => simp [intOf]
        · have hg2 : Hid (isGen (l.drop a) = false) := Lib.hid (gen_ne _ 5 _ 65 (by omega) hget rfl hu)
          have b : (((up l[a + 5]).toNat : Int) != 65) = true := by
            rw [bne_iff_ne]
            intro e
            exact hu (UInt8.toNat.inj (by show (up l[a + 5]).toNat = 65; omega))
          clear hg hget hu
          go_wp2_with fail
          go_quiet ((go_at_call 99; exact quiet_left (CU.out _ _)))
          go_wp2_with fail
          go_ret
          exact ⟨congrArg (fun b => Ending.returned (.bool b)) hg2.out.symm, by obtain ⟨q, hq⟩ := hw.out; exact ⟨q + nq, by rw [hq, World.drewN_drewN]⟩⟩
      · have hg2 : Hid (isGen (l.drop a) = false) := Lib.hid (gen_short _ (by rw [HLD.out]; omega))
        have hi2 : (0 : Int) ≤ (a : Int) + 5 := by omega
        have hgd : decide ((l.length : Int) ≤ (a : Int) + 5) = true := decide_eq_true (by omega)
        have hi1 : IntKind.i64.wrap ((a : Int) + 5) = (a : Int) + 5 := IntWalk.i64_in _ (by omega)
        have hi3 : ((a : Int) + 5).toNat = a + 5 := by omega
        clear hg
        go_wp2_with fail
        go_quiet (fail)
        go_wp2_with fail
        go_ret
        exact ⟨congrArg (fun b => Ending.returned (.bool b)) hg2.out.symm, by obtain ⟨q, hq⟩ := hw.out; exact ⟨q + nq, by rw [hq, World.drewN_drewN]⟩⟩
    · by_cases hlt : a + 6 < l.length
      · have hget : (l.drop a)[6]? = some l[a + 6] := by rw [List.getElem?_drop]; exact List.getElem?_eq_getElem hlt
        have hi2 : (0 : Int) ≤ (a : Int) + 6 := by omega
        have hgd : decide ((l.length : Int) ≤ (a : Int) + 6) = false := decide_eq_false (by omega)
        have hgd2 : ¬ (l.length : Int) ≤ (a : Int) + 6 := by omega
        have hi1 : IntKind.i64.wrap ((a : Int) + 6) = (a : Int) + 6 := IntWalk.i64_in _ (by omega)
        have hi3 : ((a : Int) + 6).toNat = a + 6 := by omega
        by_cases hu : up l[a + 6] = 76
        · have hg2 : Hid (genTo (l.drop a) 7) := Lib.hid (genTo_step hg.out (d := 76) (by rw [hget]; simp [hu]) rfl)
          have b : (((up l[a + 6]).toNat : Int) != 76) = false := by rw [hu]; rfl
          clear hg hget hu
          go_wp2_with fail
          go_quiet ((go_at_call 99; exact quiet_left (CU.out _ _)))
          go_wp2_with fail
          go_roundw
          case rel => exact ⟨7, by omega, by omega, by go_num, hg2, Lib.hid (by obtain ⟨q, hq⟩ := hw.out; exact ⟨q + nq, by rw [hq, World.drewN_drewN]⟩)⟩
          case measure => simp [intOf]
        · have hg2 : Hid (isGen (l.drop a) = false) := Lib.hid (gen_ne _ 6 _ 76 (by omega) hget rfl hu)
          have b : (((up l[a + 6]).toNat : Int) != 76) = true := by
            rw [bne_iff_ne]
            intro e
            exact hu (UInt8.toNat.inj (by show (up l[a + 6]).toNat = 76; omega))
          clear hg hget hu
          go_wp2_with fail
          go_quiet ((go_at_call 99; exact quiet_left (CU.out _ _)))
          go_wp2_with fail
          go_ret
          exact ⟨congrArg (fun b => Ending.returned (.bool b)) hg2.out.symm, by obtain ⟨q, hq⟩ := hw.out; exact ⟨q + nq, by rw [hq, World.drewN_drewN]⟩⟩
      · have hg2 : Hid (isGen (l.drop a) = false) := Lib.hid (gen_short _ (by rw [HLD.out]; omega))
        have hi2 : (0 : Int) ≤ (a : Int) + 6 := by omega
        have hgd : decide ((l.length : Int) ≤ (a : Int) + 6) = true := decide_eq_true (by omega)
        have hi1 : IntKind.i64.wrap ((a : Int) + 6) = (a : Int) + 6 := IntWalk.i64_in _ (by omega)
        have hi3 : ((a : Int) + 6).toNat = a + 6 := by omega
        clear hg
        go_wp2_with fail
        go_quiet (fail)
        go_wp2_with fail
        go_ret
        exact ⟨congrArg (fun b => Ending.returned (.bool b)) hg2.out.symm, by obtain ⟨q, hq⟩ := hw.out; exact ⟨q + nq, by rw [hq, World.drewN_drewN]⟩⟩
    · have hr : Hid (isGen (l.drop a) = !(decide (a + 7 < l.length) && (((l.drop a)[7]?).map isLetter).getD false)) := Lib.hid (by
        rw [gen_all _ (by rw [HLD.out]; omega) hg.out, HLD.out, show decide (7 < l.length - a) = decide (a + 7 < l.length) by rw [decide_eq_decide]; omega])
      clear hg
      by_cases hlt : a + 7 < l.length
      · have hget : (l.drop a)[7]? = some l[a + 7] := by rw [List.getElem?_drop]; exact List.getElem?_eq_getElem hlt
        have hgd2 : ¬ (l.length : Int) ≤ (a : Int) + 7 := by omega
        have hr2 : Hid (isGen (l.drop a) = !isLetter l[a + 7]) := Lib.hid (by rw [hr.out, hget, decide_eq_true hlt]; rfl)
        clear hr hget
        rw [letter_up] at hr2
        by_cases h65 : ((up l[a + 7]).toNat : Int) < 65
        all_goals
          go_wp2_with (go_at_call 99; (with_reducible refine (CU.out _ _).mono ?_); rintro e w' ⟨rfl, rfl⟩)
          go_ret
          exact ⟨ret_bool (by rw [hr2.out, Bool.eq_iff_iff]; simp <;> omega), hw.out⟩
      · have hgd2 : (l.length : Int) ≤ (a : Int) + 7 := by omega
        have hr2 : Hid (isGen (l.drop a) = true) := Lib.hid (by rw [hr.out, decide_eq_false hlt]; rfl)
        clear hr
        go_wp2_with fail
        go_ret
        exact ⟨congrArg (fun b => Ending.returned (.bool b)) hr2.out.symm, hw.out⟩
end Go.Proofs.YteccjdclkcipbaaDoor
