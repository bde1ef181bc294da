/-
  value.Of, Text, Truth, Bad, Order, FaultOf: what they return.
-/
import Derived.Test.YteccjdclkcipbaaDoorPlainO
import Derived.Test.YteccjdclkcipbaaDoorLex8
import Derived.Test.YteccjdclkcipbaaDoorNum4
namespace Go.Proofs.YteccjdclkcipbaaDoor
open Go.RowKit

def vNumber (m e : Int) : Val := ⟨1, m, e, [], false, 0⟩
def vBad (f : Int) : Val := ⟨4, 0, 0, [], false, if f < 1 ∨ 9 < f then 9 else f⟩
def vText (l : Bs) : Val := if 255 < l.length then vBad 2 else ⟨2, 0, 0, l, false, 0⟩
def vTruth (b : Bool) : Val := ⟨3, 0, 0, [], b, 0⟩
set_option maxHeartbeats 400000 in
theorem of_any (m e : Int) (w : World) :
    Calls Tryd.prog 13 #[numV m e] w fun x w' => x = .returned (valV (vNumber m e)) ∧ Below w.heap.size w w' := by
  go_enter Tryd.func13, Tryd.ntmps13
  go_wp2
  refine bodyPost_ret (v := .agg #[.int .i64 1, .int .i64 m, .int .i64 e, .string ⟨#[]⟩, .bool false, .int .i64 0]) (by simp [results, Tryd.results13, go_sem]) rfl ?_
  exact ⟨rfl, ((Below.refl _ w).alloc (Nat.le_refl _) _).alloc (by simp) _⟩
set_option maxHeartbeats 400000 in
theorem truth_any (b : Bool) (w : World) :
    Calls Tryd.prog 54 #[.bool b] w fun x w' => x = .returned (valV (vTruth b)) ∧ Below w.heap.size w w' := by
  go_enter Tryd.func54, Tryd.ntmps54
  go_wp2
  refine bodyPost_ret (v := .agg #[.int .i64 3, .int .i64 0, .int .i64 0, .string ⟨#[]⟩, .bool b, .int .i64 0]) (by simp [results, Tryd.results54, go_sem]) rfl ?_
  exact ⟨rfl, (Below.refl _ w).alloc (Nat.le_refl _) _⟩
set_option maxHeartbeats 800000 in
theorem bad_any (f : Int) (w : World) :
    Calls Tryd.prog 45 #[.int .i64 f] w fun x w' => x = .returned (valV (vBad f)) ∧ Below w.heap.size w w' := by
  have hN : vBad f = ⟨4, 0, 0, [], false, if f < 1 ∨ 9 < f then 9 else f⟩ := rfl
  have HN := Lib.hid hN
  clear hN
  generalize vBad f = r at *
  by_cases h1 : f < 1
  · rw [if_pos (.inl h1)] at HN
    go_enter Tryd.func45, Tryd.ntmps45
    go_wp2
    refine bodyPost_ret (v := .agg #[.int .i64 4, .int .i64 0, .int .i64 0, .string ⟨#[]⟩, .bool false, .int .i64 9]) (by simp [results, Tryd.results45, go_sem]) rfl ?_
    exact ⟨by rw [HN.out], (Below.refl _ w).alloc (Nat.le_refl _) _⟩
  by_cases h2 : 9 < f
  · rw [if_pos (.inr h2)] at HN
    go_enter Tryd.func45, Tryd.ntmps45
    go_wp2
    refine bodyPost_ret (v := .agg #[.int .i64 4, .int .i64 0, .int .i64 0, .string ⟨#[]⟩, .bool false, .int .i64 9]) (by simp [results, Tryd.results45, go_sem]) rfl ?_
    exact ⟨by rw [HN.out], (Below.refl _ w).alloc (Nat.le_refl _) _⟩
  rw [if_neg (by omega)] at HN
  go_enter Tryd.func45, Tryd.ntmps45
  go_wp2
  refine bodyPost_ret (v := .agg #[.int .i64 4, .int .i64 0, .int .i64 0, .string ⟨#[]⟩, .bool false, .int .i64 f]) (by simp [results, Tryd.results45, go_sem]) rfl ?_
  exact ⟨by rw [HN.out], (Below.refl _ w).alloc (Nat.le_refl _) _⟩
/-- a block that holds a zero value, still to be written -/
theorem Lies.six {w : World} {R : Nat} (h : Lies w R 27 (valC zeroVal)) : w.cell? ⟨R, 0, none⟩ = some (.int .i64 0) ∧ w.cell? ⟨R, 1, none⟩ = some (.int .i64 0) ∧ w.cell? ⟨R, 2, none⟩ = some (.int .i64 0) ∧ w.cell? ⟨R, 3, none⟩ = some (.string ⟨#[]⟩) ∧ w.cell? ⟨R, 4, none⟩ = some (.bool false) ∧ w.cell? ⟨R, 5, none⟩ = some (.int .i64 0) ∧
    w.frozen? ⟨R, 0, none⟩ = false ∧ w.frozen? ⟨R, 1, none⟩ = false ∧ w.frozen? ⟨R, 2, none⟩ = false ∧ w.frozen? ⟨R, 3, none⟩ = false ∧ w.frozen? ⟨R, 4, none⟩ = false ∧ w.frozen? ⟨R, 5, none⟩ = false :=
  ⟨h.cell 0, h.cell 1, h.cell 2, h.cell 3, h.cell 4, h.cell 5, h.frozen 0, h.frozen 1, h.frozen 2, h.frozen 3, h.frozen 4, h.frozen 5⟩
theorem Lies.next {w w' : World} {g : Nat} {t : TypeId} {cs : Array Value} (h : Lies w g t cs) (hb : Below w.heap.size w w') : Lies w' g t cs := (hb.block g h.lt).trans h
set_option maxHeartbeats 800000 in
theorem text_any (l : Bs) (w : World) (hl : l.length ≤ 1000000) :
    Calls Tryd.prog 16 #[.string ⟨l.toArray⟩] w fun x w' => x = .returned (valV (vText l)) ∧ Below w.heap.size w w' := by
  have hN : vText l = if 255 < l.length then vBad 2 else ⟨2, 0, 0, l, false, 0⟩ := rfl
  have HN := Lib.hid hN
  clear hN
  generalize vText l = r at *
  by_cases h1 : 255 < l.length
  · rw [if_pos h1] at HN
    have hL := Lib.hid (Lies.new w 27 (valC zeroVal))
    have HB := Lib.hid ((Below.refl _ w).alloc (Nat.le_refl _) (.cells (valC zeroVal) 27))
    go_enter Tryd.func16, Tryd.ntmps16
    go_wp2_with fail
    refine (bad_any 2 _).mono ?_
    rintro e w1 ⟨rfl, hb⟩
    obtain ⟨z0, z1, z2, z3, z4, z5, y0, y1, y2, y3, y4, y5⟩ := (hL.out.next hb).six
    have HB1 : Hid (Below w.heap.size w w1) := Lib.hid (HB.out.trans (hb.mono HB.out.size))
    clear hb
    unfold vBad
    go_wp2_with fail
    refine bodyPost_ret (v := .agg #[.int .i64 4, .int .i64 0, .int .i64 0, .string ⟨#[]⟩, .bool false, .int .i64 2]) (by simp [results, Tryd.results16, go_sem, z0, z1, z2, z3, z4, z5]) rfl ?_
    exact ⟨by rw [HN.out]; rfl, put6_below ⟨4, 0, 0, [], false, 2⟩ HB1.out (Nat.le_refl _)⟩
  · rw [if_neg h1] at HN
    go_enter Tryd.func16, Tryd.ntmps16
    go_wp2_with fail
    refine bodyPost_ret (v := .agg #[.int .i64 2, .int .i64 0, .int .i64 0, .string ⟨l.toArray⟩, .bool false, .int .i64 0]) (by simp [results, Tryd.results16, go_sem]) rfl ?_
    exact ⟨by rw [HN.out], (Below.refl _ w).alloc (Nat.le_refl _) _⟩
set_option maxRecDepth 100000 in
set_option maxHeartbeats 1600000 in
theorem order_any (a b : Val) (w : World) (fa : Fit a) (fb : Fit b) :
    Calls Tryd.prog 20 #[valV a, valV b] w fun e w' => e = .returned (.int .i64 (pOrder a b)) ∧ Below w.heap.size w w' := by
  have hN : pOrder a b = if a.kind = 0 ∧ b.kind = 0 then 0 else if a.kind = 0 then 1 else if b.kind = 0 then -1 else pCompare a b := rfl
  have HN := Lib.hid hN
  have HC := Lib.hid (fun W => compare_any a b W fa fb)
  clear hN
  generalize pOrder a b = r at *
  generalize pCompare a b = r2 at *
  have hB : Below w.heap.size w ((w.alloc (.cells (valC a) 27)).alloc (.cells (valC b) 27)) := ((Below.refl _ w).alloc (Nat.le_refl _) _).alloc (by simp) _
  have HB := Lib.hid hB
  clear hB fa fb
  obtain ⟨k, m, x, t, tr, f⟩ := a
  obtain ⟨k2, m2, x2, t2, tr2, f2⟩ := b
  dsimp only at HN
  by_cases h1 : k = 0
  · by_cases h2 : k2 = 0
    · rw [if_pos ⟨h1, h2⟩] at HN
      subst h1; subst h2
      go_enter Tryd.func20, Tryd.ntmps20
      go_wp2_with fail
      go_ret
      exact ⟨ret_int (by rw [HN.out]), HB.out⟩
    · rw [if_neg (fun h => h2 h.2), if_pos h1] at HN
      subst h1
      have b2 : (k2 == 0) = false := by rw [beq_eq_false_iff_ne]; exact h2
      clear h2
      go_enter Tryd.func20, Tryd.ntmps20
      go_wp2_with fail
      go_ret
      exact ⟨ret_int (by rw [HN.out]), HB.out⟩
  · have b1 : (k == 0) = false := by rw [beq_eq_false_iff_ne]; exact h1
    by_cases h2 : k2 = 0
    · rw [if_neg (fun h => h1 h.1), if_neg h1, if_pos h2] at HN
      subst h2
      clear h1
      go_enter Tryd.func20, Tryd.ntmps20
      go_wp2_with fail
      go_ret
      exact ⟨ret_int (by rw [HN.out]), HB.out⟩
    · rw [if_neg (fun h => h1 h.1), if_neg h1, if_neg h2] at HN
      have b2 : (k2 == 0) = false := by rw [beq_eq_false_iff_ne]; exact h2
      clear h1 h2
      go_enter Tryd.func20, Tryd.ntmps20
      go_wp2_with fail
      refine (HC.out _).mono ?_
      rintro e w1 ⟨rfl, hb⟩
      have HB1 : Hid (Below w.heap.size w w1) := Lib.hid (HB.out.trans (hb.mono HB.out.size))
      clear hb
      go_wp2_with fail
      go_ret
      exact ⟨ret_int (by rw [HN.out]), HB1.out⟩
def pFaultNo (l : Bs) : Nat := ((List.range' 1 9).find? fun k => pFold l == faultB k).getD 0
set_option maxHeartbeats 800000 in
theorem valFaultOf_any (l : Bs) (w : World) (hl : l.length ≤ maxLen) (ht : Tab w) :
    Calls Tryd.prog 55 #[.string ⟨l.toArray⟩] w fun e w' => e = .returned (.int .i64 (pFaultNo l : Int)) ∧ Below w.heap.size w w' := by
  have hN : pFaultNo l = ((List.range' 1 9).find? fun k => pFold l == faultB k).getD 0 := rfl
  have HN := Lib.hid hN
  clear hN
  have HT := Lib.hid ht
  clear ht
  generalize pFaultNo l = r at *
  go_enter Tryd.func55, Tryd.ntmps55
  go_wp2_with fail
  refine (fold_any l _ hl).mono ?_
  rintro e w1 ⟨rfl, hb⟩
  have HB := Lib.hid hb
  have HT1 := Lib.hid (HT.out.next hb)
  clear hb HT
  generalize pFold l = u at *
  go_wp2_with fail
  go_loop [3] (fun i => ∃ k : Nat, 1 ≤ k ∧ k ≤ 10 ∧ i = .int .i64 k ∧ Hid (∀ j, 1 ≤ j → j < k → (u == faultB j) = false)) (fun i => 10 - (intOf i).toNat)
  case atStart => exact ⟨1, by omega, by omega, rfl, Lib.hid (fun j h1 h2 => by omega)⟩
  case round =>
    obtain ⟨k, hk1, hk2, rfl, hr⟩ := hrel
    by_cases hlt : k ≤ 9
    · have hc := HT1.out k (by omega)
      have HF : Hid ((u == faultB k) = true → r = k) := Lib.hid (fun h => by rw [HN.out, find_first _ 9 k hk1 (by omega) h hr.out]; rfl)
      have HR : Hid ((u == faultB k) = false → ∀ j, 1 ≤ j → j < k + 1 → (u == faultB j) = false) := Lib.hid (fun h j h1 h2 => by
        by_cases e : j = k
        · rw [e]; exact h
        · exact hr.out j h1 (by omega))
      generalize faultB k = t at *
      cases hu : (u == t)
      · go_wp2_with fail
        go_round
        case rel => exact ⟨k + 1, by omega, by omega, by go_num, Lib.hid (HR.out hu)⟩
        case measure => simp [intOf]; omega
      · go_wp2_with fail
        go_ret
        exact ⟨ret_int (by rw [HF.out hu]), HB.out⟩
    · have hz : Hid (r = 0) := Lib.hid (by rw [HN.out, find_no _ 9 (fun j h1 h2 => hr.out j h1 (by omega))]; rfl)
      go_wp2_with fail
      go_ret
      exact ⟨ret_int (by rw [hz.out]; rfl), HB.out⟩
end Go.Proofs.YteccjdclkcipbaaDoor
