/-
  The document's examples, as counterpanelaw02.awake asks for them: it returns true; few.
-/
import Derived.Test.YteccjdclkcipbaaDoorVal7
namespace Go.Proofs.YteccjdclkcipbaaDoor
open Go.RowKit

def abc : Bs := [97, 98, 99]
def ABC : Bs := [65, 66, 67]
theorem aw1 : vText abc = ⟨2, 0, 0, [97, 98, 99], false, 0⟩ := by kernel_rfl
theorem aw2 : vText ABC = ⟨2, 0, 0, [65, 66, 67], false, 0⟩ := by kernel_rfl
theorem aw3 : vRead [116, 114, 117, 101] = ⟨3, 0, 0, [], true, 0⟩ := by kernel_rfl
theorem aw4 : vRead [35, 110, 47, 97] = ⟨4, 0, 0, [], false, 6⟩ := by kernel_rfl
theorem aw5 : pCompare ⟨2, 0, 0, [97, 98, 99], false, 0⟩ ⟨2, 0, 0, [65, 66, 67], false, 0⟩ = 0 := by kernel_rfl
theorem aw6 : pCompare ⟨1, 5, 0, [], false, 0⟩ ⟨2, 0, 0, [97, 98, 99], false, 0⟩ = -1 := by kernel_rfl
theorem aw7 : pOrder ⟨0, 0, 0, [], false, 0⟩ ⟨1, 5, 0, [], false, 0⟩ = 1 := by kernel_rfl
theorem fit_text (l : Bs) (h : l.length ≤ maxLen) : Fit ⟨2, 0, 0, l, false, 0⟩ := ⟨(by decide : (-9223372036854775808 : Int) ≤ 0), (by decide : (0 : Int) ≤ 9223372036854775807), fun h => absurd h (by decide : ¬ (2 : Int) = 1), h⟩
theorem fit_five : Fit ⟨1, 5, 0, [], false, 0⟩ := ⟨by decide, by decide, fun _ => by kernel_rfl, Nat.zero_le _⟩
theorem fit_zero : Fit ⟨0, 0, 0, [], false, 0⟩ := ⟨by decide, by decide, fun h => absurd h (by decide : ¬ (0 : Int) = 1), Nat.zero_le _⟩
theorem Lies.seen {w : World} {R : Nat} {v : Val} (h : Lies w R 27 (valC v)) : w.cell? ⟨R, 0, none⟩ = some (.int .i64 v.kind) ∧ w.cell? ⟨R, 1, none⟩ = some (.int .i64 v.mant) ∧ w.cell? ⟨R, 2, none⟩ = some (.int .i64 v.exp) ∧ w.cell? ⟨R, 3, none⟩ = some (.string ⟨v.text.toArray⟩) ∧ w.cell? ⟨R, 4, none⟩ = some (.bool v.truth) ∧ w.cell? ⟨R, 5, none⟩ = some (.int .i64 v.fault) :=
  ⟨h.cell 0, h.cell 1, h.cell 2, h.cell 3, h.cell 4, h.cell 5⟩
set_option maxRecDepth 100000 in
set_option maxHeartbeats 6400000 in
theorem awake02_any (w : World) (ht : Tab w) :
    Calls Tryd.prog 11 #[] w fun e w' => e = .returned (.bool true) ∧ Below w.heap.size w w' := by
  have HT := Lib.hid ht
  clear ht
  go_enter Tryd.func11, Tryd.ntmps11
  go_wp2_with fail
  refine (text_any abc _ (by decide)).mono ?_
  rintro e w1 ⟨rfl, hb1⟩
  have HB1 := Lib.hid hb1
  have HT1 := Lib.hid (HT.out.next hb1)
  clear hb1 HT
  rw [aw1]
  go_wp2_with fail
  refine (text_any ABC _ (by decide)).mono ?_
  rintro e w2 ⟨rfl, hb2⟩
  have HB2 : Hid (Below w.heap.size w w2) := Lib.hid (HB1.out.trans (hb2.mono HB1.out.size))
  have HT2 := Lib.hid (HT1.out.next hb2)
  clear hb2 HT1 HB1
  rw [aw2]
  have L1 := Lib.hid ((Lies.new w2 27 (valC ⟨2, 0, 0, [97, 98, 99], false, 0⟩)).alloc (.cells (valC ⟨2, 0, 0, [65, 66, 67], false, 0⟩) 27))
  have L2 := Lib.hid (Lies.new (w2.alloc (.cells (valC ⟨2, 0, 0, [97, 98, 99], false, 0⟩) 27)) 27 (valC ⟨2, 0, 0, [65, 66, 67], false, 0⟩))
  have HB3 := Lib.hid ((HB2.out.alloc HB2.out.size (.cells (valC ⟨2, 0, 0, [97, 98, 99], false, 0⟩) 27)).alloc (by have := HB2.out.size; simp; omega) (.cells (valC ⟨2, 0, 0, [65, 66, 67], false, 0⟩) 27))
  have HT3 := Lib.hid ((HT2.out.alloc (.cells (valC ⟨2, 0, 0, [97, 98, 99], false, 0⟩) 27)).alloc (.cells (valC ⟨2, 0, 0, [65, 66, 67], false, 0⟩) 27))
  clear HB2 HT2
  go_wp2_with fail
  refine (of_any 5 0 _).mono ?_
  rintro e w3 ⟨rfl, hb3⟩
  have L1' := Lib.hid (L1.out.next hb3)
  have L2' : Hid (Lies w3 (w2.heap.size + 1) 27 (valC ⟨2, 0, 0, [65, 66, 67], false, 0⟩)) := Lib.hid (by have := L2.out.next hb3; simpa using this)
  have HB4 : Hid (Below w.heap.size w w3) := Lib.hid (HB3.out.trans (hb3.mono HB3.out.size))
  have HT4 := Lib.hid (HT3.out.next hb3)
  clear hb3 L1 L2 HB3 HT3
  unfold vNumber
  have L1 := Lib.hid (L1'.out.alloc (.cells (valC ⟨1, 5, 0, [], false, 0⟩) 27))
  have L2 := Lib.hid (L2'.out.alloc (.cells (valC ⟨1, 5, 0, [], false, 0⟩) 27))
  have L3 := Lib.hid (Lies.new w3 27 (valC ⟨1, 5, 0, [], false, 0⟩))
  have HB5 := Lib.hid (HB4.out.alloc HB4.out.size (.cells (valC ⟨1, 5, 0, [], false, 0⟩) 27))
  have HT5 := Lib.hid (HT4.out.alloc (.cells (valC ⟨1, 5, 0, [], false, 0⟩) 27))
  clear L1' L2' HB4 HT4
  go_wp2_with fail
  refine (read_any [116, 114, 117, 101] _ (by decide) HT5.out).mono ?_
  rintro e w4 ⟨rfl, hb4⟩
  have L1' := Lib.hid (L1.out.next hb4)
  have L2' := Lib.hid (L2.out.next hb4)
  have L3' := Lib.hid (L3.out.next hb4)
  have HB6 : Hid (Below w.heap.size w w4) := Lib.hid (HB5.out.trans (hb4.mono HB5.out.size))
  have HT6 := Lib.hid (HT5.out.next hb4)
  clear hb4 L1 L2 L3 HB5 HT5
  rw [aw3]
  have L1 := Lib.hid (L1'.out.alloc (.cells (valC ⟨3, 0, 0, [], true, 0⟩) 27))
  have L2 := Lib.hid (L2'.out.alloc (.cells (valC ⟨3, 0, 0, [], true, 0⟩) 27))
  have L3 := Lib.hid (L3'.out.alloc (.cells (valC ⟨3, 0, 0, [], true, 0⟩) 27))
  have L4 := Lib.hid (Lies.new w4 27 (valC ⟨3, 0, 0, [], true, 0⟩))
  have HB7 := Lib.hid (HB6.out.alloc HB6.out.size (.cells (valC ⟨3, 0, 0, [], true, 0⟩) 27))
  have HT7 := Lib.hid (HT6.out.alloc (.cells (valC ⟨3, 0, 0, [], true, 0⟩) 27))
  clear L1' L2' L3' HB6 HT6
  obtain ⟨p0, p1, p2, p3, p4, p5⟩ := L1.out.seen
  obtain ⟨q0, q1, q2, q3, q4, q5⟩ := L2.out.seen
  dsimp only at p0 p1 p2 p3 p4 p5 q0 q1 q2 q3 q4 q5
  go_wp2_with fail
  refine (compare_any ⟨2, 0, 0, [97, 98, 99], false, 0⟩ ⟨2, 0, 0, [65, 66, 67], false, 0⟩ _ (fit_text _ (by decide)) (fit_text _ (by decide))).mono ?_
  rintro e w5 ⟨rfl, hb5⟩
  have L1' := Lib.hid (L1.out.next hb5)
  have L3' := Lib.hid (L3.out.next hb5)
  have L4' := Lib.hid (L4.out.next hb5)
  have HB8 : Hid (Below w.heap.size w w5) := Lib.hid (HB7.out.trans (hb5.mono HB7.out.size))
  have HT8 := Lib.hid (HT7.out.next hb5)
  clear hb5 L1 L2 L3 L4 HB7 HT7 p0 p1 p2 p3 p4 p5 q0 q1 q2 q3 q4 q5
  rw [aw5]
  obtain ⟨p0, p1, p2, p3, p4, p5⟩ := L1'.out.seen
  obtain ⟨q0, q1, q2, q3, q4, q5⟩ := L3'.out.seen
  dsimp only at p0 p1 p2 p3 p4 p5 q0 q1 q2 q3 q4 q5
  go_wp2_with fail
  refine (compare_any ⟨1, 5, 0, [], false, 0⟩ ⟨2, 0, 0, [97, 98, 99], false, 0⟩ _ fit_five (fit_text _ (by decide))).mono ?_
  rintro e w6 ⟨rfl, hb6⟩
  have L3 := Lib.hid (L3'.out.next hb6)
  have L4 := Lib.hid (L4'.out.next hb6)
  have HB9 : Hid (Below w.heap.size w w6) := Lib.hid (HB8.out.trans (hb6.mono HB8.out.size))
  have HT9 := Lib.hid (HT8.out.next hb6)
  clear hb6 L1' L3' L4' HB8 HT8 p0 p1 p2 p3 p4 p5 q0 q1 q2 q3 q4 q5
  rw [aw6]
  obtain ⟨p0, p1, p2, p3, p4, p5⟩ := L4.out.seen
  dsimp only at p0 p1 p2 p3 p4 p5
  go_wp2_with fail
  refine (read_any [35, 110, 47, 97] _ (by decide) HT9.out).mono ?_
  rintro e w7 ⟨rfl, hb7⟩
  have L3' := Lib.hid (L3.out.next hb7)
  have HB10 : Hid (Below w.heap.size w w7) := Lib.hid (HB9.out.trans (hb7.mono HB9.out.size))
  clear hb7 L3 L4 HB9 HT9 p0 p1 p2 p3 p4 p5
  rw [aw4]
  obtain ⟨q0, q1, q2, q3, q4, q5⟩ := L3'.out.seen
  dsimp only at q0 q1 q2 q3 q4 q5
  have hfld : ∀ W, (Instr.field 27 (valV ⟨4, 0, 0, [], false, 6⟩) 4).run Tryd.prog W = .ok (.int .i64 6) W := fun _ => by kernel_rfl
  go_wp2_with fail
  refine (order_any ⟨0, 0, 0, [], false, 0⟩ ⟨1, 5, 0, [], false, 0⟩ _ fit_zero fit_five).mono ?_
  rintro e w8 ⟨rfl, hb8⟩
  have HB11 : Hid (Below w.heap.size w w8) := Lib.hid (HB10.out.trans (hb8.mono HB10.out.size))
  clear hb8
  rw [aw7]
  go_wp2_with fail
  go_ret
  exact ⟨rfl, HB11.out⟩
end Go.Proofs.YteccjdclkcipbaaDoor
