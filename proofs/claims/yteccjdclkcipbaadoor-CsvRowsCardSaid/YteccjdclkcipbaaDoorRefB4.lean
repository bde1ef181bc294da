/-
  counterpaneref02.Right, Text, Bad, Truth, Number, Fold, Faults, FaultOf, Read.
-/
import Derived.Test.YteccjdclkcipbaaDoorRefA3
import Derived.Test.YteccjdclkcipbaaDoorVal7
import Derived.Test.YteccjdclkcipbaaDoorPl1
import Derived.Test.YteccjdclkcipbaaDoorRefA8
namespace Go.Proofs.YteccjdclkcipbaaDoor
open Go.RowKit

/-- may a value be? -/
def vRight (v : Val) : Bool :=
  !((decide (v.kind ≠ 1) && !(decide (v.mant = 0) && decide (v.exp = 0))) || (decide (v.kind ≠ 2) && decide (v.text ≠ [])) || (decide (v.kind ≠ 3) && v.truth) || (decide (v.kind ≠ 4) && decide (v.fault ≠ 0))) &&
  (if v.kind = 1 then pRight v.mant v.exp else if v.kind = 2 then decide (v.text.length ≤ 255) else decide (v.kind = 0) || decide (v.kind = 3) || (decide (v.kind = 4) && decide (1 ≤ v.fault) && decide (v.fault ≤ 9)))
set_option maxRecDepth 100000 in
set_option maxHeartbeats 6400000 in
theorem rvRight_any (v : Val) (w : World) (h1 : -9223372036854775808 ≤ v.mant) (h2 : v.mant ≤ 9223372036854775807) (hl : v.text.length ≤ maxLen) :
    Calls Tryd.prog 31 #[valV v] w fun x w' => x = .returned (.bool (vRight v)) ∧ Below w.heap.size w w' := by
  have HN : Hid (vRight v = (!((decide (v.kind ≠ 1) && !(decide (v.mant = 0) && decide (v.exp = 0))) || (decide (v.kind ≠ 2) && decide (v.text ≠ [])) || (decide (v.kind ≠ 3) && v.truth) || (decide (v.kind ≠ 4) && decide (v.fault ≠ 0))) &&
    (if v.kind = 1 then pRight v.mant v.exp else if v.kind = 2 then decide (v.text.length ≤ 255) else decide (v.kind = 0) || decide (v.kind = 3) || (decide (v.kind = 4) && decide (1 ≤ v.fault) && decide (v.fault ≤ 9))))) := Lib.hid rfl
  have HB : Hid (Below w.heap.size w (w.alloc (.cells (valC v) 27))) := Lib.hid ((Below.refl _ w).alloc (Nat.le_refl _) _)
  have HRt := Lib.hid (fun W => rRight_any v.mant v.exp W h1 h2)
  generalize vRight v = r at *
  obtain ⟨k, m, e, t, tr, f⟩ := v
  unfold maxLen at hl
  dsimp only at HN HRt hl
  clear h1 h2
  go_enter Tryd.func31, Tryd.ntmps31
  go_upto_region 1 with fail
  go_cut [3] (fun v3 wx => v3 = .bool (decide (m = 0) && decide (e = 0)) ∧ w.alloc (.cells #[.int .i64 k, .int .i64 m, .int .i64 e, .string ⟨t.toArray⟩, .bool tr, .int .i64 f] 27) = wx)
  case first =>
    by_cases c1 : m = 0
    · subst c1
      by_cases c2 : e = 0
      · subst c2
        go_wp2_with fail
        go_meet
        exact ⟨rfl, rfl⟩
      · have b2 : (e == 0) = false := by rw [beq_eq_false_iff_ne]; exact c2
        go_wp2_with fail
        go_meet
        exact ⟨by simp [c2], rfl⟩
    · have b1 : (m == 0) = false := by rw [beq_eq_false_iff_ne]; exact c1
      go_wp2_with fail
      go_meet
      exact ⟨by simp [c1], rfl⟩
  case rest =>
    obtain ⟨rfl, rfl⟩ := hcut
    generalize (decide (m = 0) && decide (e = 0)) = z at *
    -- the four tests, in their order
    by_cases k1 : k = 1
    · subst k1
      cases t with
      | cons c t =>
        have hr : Hid (r = false) := Lib.hid (by rw [HN.out]; simp)
        go_wp2_with fail
        go_ret
        exact ⟨ret_bool (by rw [hr.out]), HB.out⟩
      | nil =>
        cases tr
        · by_cases hf : f = 0
          · have hr : Hid (r = pRight m e) := Lib.hid (by rw [HN.out]; simp [hf])
            subst hf
            go_wp2_with fail
            refine (HRt.out _).mono ?_
            rintro x w1 ⟨rfl, hb1⟩
            have HB1 : Hid (Below w.heap.size w w1) := Lib.hid (HB.out.trans (hb1.mono HB.out.size))
            clear hb1
            go_wp2_with fail
            go_ret
            exact ⟨ret_bool (by rw [hr.out]), HB1.out⟩
          · have hr : Hid (r = false) := Lib.hid (by rw [HN.out]; simp [hf])
            have bf : (f != 0) = true := by rw [bne_iff_ne]; exact hf
            go_wp2_with fail
            go_ret
            exact ⟨ret_bool (by rw [hr.out]), HB.out⟩
        · have hr : Hid (r = false) := Lib.hid (by rw [HN.out]; simp)
          go_wp2_with fail
          go_ret
          exact ⟨ret_bool (by rw [hr.out]), HB.out⟩
    have n1 : (k != 1) = true := by rw [bne_iff_ne]; exact k1
    have e1 : (k == 1) = false := by rw [beq_eq_false_iff_ne]; exact k1
    cases z
    · have hr : Hid (r = false) := Lib.hid (by rw [HN.out]; simp [k1])
      go_wp2_with fail
      go_ret
      exact ⟨ret_bool (by rw [hr.out]), HB.out⟩
    by_cases k2 : k = 2
    · subst k2
      cases tr
      · by_cases hf : f = 0
        · have hr : Hid (r = decide (t.length ≤ 255)) := Lib.hid (by rw [HN.out]; simp [hf])
          subst hf
          go_wp2_with fail
          go_ret
          exact ⟨ret_bool (by rw [hr.out, Bool.eq_iff_iff]; simp; try omega), HB.out⟩
        · have hr : Hid (r = false) := Lib.hid (by rw [HN.out]; simp [hf])
          have bf : (f != 0) = true := by rw [bne_iff_ne]; exact hf
          go_wp2_with fail
          go_ret
          exact ⟨ret_bool (by rw [hr.out]), HB.out⟩
      · have hr : Hid (r = false) := Lib.hid (by rw [HN.out]; simp)
        go_wp2_with fail
        go_ret
        exact ⟨ret_bool (by rw [hr.out]), HB.out⟩
    have n2 : (k != 2) = true := by rw [bne_iff_ne]; exact k2
    have e2 : (k == 2) = false := by rw [beq_eq_false_iff_ne]; exact k2
    cases t with
    | cons c t =>
      have hr : Hid (r = false) := Lib.hid (by rw [HN.out]; simp [k2])
      clear k1 k2
      go_wp2_with fail
      go_ret
      exact ⟨ret_bool (by rw [hr.out]), HB.out⟩
    | nil =>
      by_cases k3 : k = 3
      · subst k3
        by_cases hf : f = 0
        · have hr : Hid (r = true) := Lib.hid (by rw [HN.out]; simp [hf])
          subst hf
          go_wp2_with fail
          go_ret
          exact ⟨ret_bool (by rw [hr.out]), HB.out⟩
        · have hr : Hid (r = false) := Lib.hid (by rw [HN.out]; simp [hf])
          have bf : (f != 0) = true := by rw [bne_iff_ne]; exact hf
          go_wp2_with fail
          go_ret
          exact ⟨ret_bool (by rw [hr.out]), HB.out⟩
      have n3 : (k != 3) = true := by rw [bne_iff_ne]; exact k3
      have e3 : (k == 3) = false := by rw [beq_eq_false_iff_ne]; exact k3
      cases tr
      · by_cases k4 : k = 4
        · subst k4
          by_cases f1 : 1 ≤ f
          · by_cases f9 : f ≤ 9
            · have hr : Hid (r = true) := Lib.hid (by rw [HN.out]; simp [f1, f9])
              clear k1 k2 k3
              go_wp2_with fail
              go_ret
              exact ⟨ret_bool (by rw [hr.out]), HB.out⟩
            · have hr : Hid (r = false) := Lib.hid (by rw [HN.out]; simp [f9])
              clear k1 k2 k3
              go_wp2_with fail
              go_ret
              exact ⟨ret_bool (by rw [hr.out]), HB.out⟩
          · have hr : Hid (r = false) := Lib.hid (by rw [HN.out]; simp [f1])
            clear k1 k2 k3
            go_wp2_with fail
            go_ret
            exact ⟨ret_bool (by rw [hr.out]), HB.out⟩
        have n4 : (k != 4) = true := by rw [bne_iff_ne]; exact k4
        have e4 : (k == 4) = false := by rw [beq_eq_false_iff_ne]; exact k4
        by_cases hf : f = 0
        · by_cases k0 : k = 0
          · have hr : Hid (r = true) := Lib.hid (by rw [HN.out]; simp [hf, k0])
            subst hf
            subst k0
            clear k1 k2 k3 k4
            go_wp2_with fail
            go_ret
            exact ⟨ret_bool (by rw [hr.out]), HB.out⟩
          · have hr : Hid (r = false) := Lib.hid (by rw [HN.out]; simp [k0, k1, k2, k3, k4])
            have e0 : (k == 0) = false := by rw [beq_eq_false_iff_ne]; exact k0
            subst hf
            clear k1 k2 k3 k4 k0
            go_wp2_with fail
            go_ret
            exact ⟨ret_bool (by rw [hr.out]), HB.out⟩
        · have hr : Hid (r = false) := Lib.hid (by rw [HN.out]; simp [hf, k4])
          have bf : (f != 0) = true := by rw [bne_iff_ne]; exact hf
          clear k1 k2 k3 k4
          go_wp2_with fail
          go_ret
          exact ⟨ret_bool (by rw [hr.out]), HB.out⟩
      · have hr : Hid (r = false) := Lib.hid (by rw [HN.out]; simp [k3])
        clear k1 k2 k3
        go_wp2_with fail
        go_ret
        exact ⟨ret_bool (by rw [hr.out]), HB.out⟩
theorem conv_one (w : World) (n : Nat) (c : UInt8) (x : Int) (hx : ((c.toNat : Nat) : Int) = x) (hn : n = w.heap.size) : (convert 100 9 (.slice (some ⟨n, 0, none⟩) 1 1)).run Tryd.prog (w.alloc (.cells #[.int .u8 x] 5)) = .ok (.string ⟨[c].toArray⟩) (w.alloc (.cells #[.int .u8 x] 5)) := by
  subst hn
  subst hx
  refine conv_back [c] _ w.heap.size 1 1 rfl ?_
  intro j hj
  have hl := Lies.new w 5 #[.int .u8 (c.toNat : Int)]
  have : j = 0 := by simpa using hj
  subst this
  exact ⟨hl.cell 0, hl.frozen 0⟩
def faults02 : List Bs := (List.range 10).map faultB
set_option maxHeartbeats 400000 in
theorem rfaults_any (w : World) :
    Calls Tryd.prog 98 #[] w fun e w' => ∃ g, e = .returned (.slice (some ⟨g, 0, none⟩) 10 10) ∧ w.heap.size ≤ g ∧ Lies w' g 9 (faults02.map fun s => Value.string ⟨s.toArray⟩).toArray ∧ Below w.heap.size w w' := by
  go_enter Tryd.func98, Tryd.ntmps98
  go_wp2
  go_ret
  exact ⟨w.heap.size, rfl, Nat.le_refl _, Lies.new w 9 _, (Below.refl _ w).alloc (Nat.le_refl _) _⟩
theorem faults_cell {w : World} {g : Nat} (h : Lies w g 9 (faults02.map fun s => Value.string ⟨s.toArray⟩).toArray) (k : Nat) (hk : k < 10) : w.cell? ⟨g, k, none⟩ = some (.string ⟨(faultB k).toArray⟩) := by
  rw [h.cell]
  simp [faults02, hk]
end Go.Proofs.YteccjdclkcipbaaDoor
