/-
  Plain words: digits that are rounded up.
-/
import Derived.Test.YtcgdeoldgnjdeaaDoorPlainR
namespace Go.Proofs.YtcgdeoldgnjdeaaDoor
open Go.RowKit

/-- does what is cut off round what is kept up? -/
def upB (H : List Nat) (x : Nat) (R : List Nat) : Bool := decide (5 < x) || (decide (x = 5) && (decide (0 < (bareL R).length) || decide (natOf H % 2 = 1)))
theorem rhe_digits (H : List Nat) (x : Nat) (R : List Nat) (h : Dig (x :: R)) : rhe (natOf (H ++ x :: R)) (R.length + 1) = natOf H + (if upB H x R then 1 else 0) := by
  have hlt := natOf_lt (x :: R) h
  have hR := natOf_lt R h.tail
  have hb := bareL_nil R
  have hc := natOf_cons x R
  rw [List.length_cons] at hlt
  have hp : 0 < 10 ^ R.length := Nat.pow_pos (by decide)
  have hx := h.head
  have hpow : 10 ^ (R.length + 1) = 10 ^ R.length * 10 := Nat.pow_succ ..
  have e1 : natOf (H ++ x :: R) / 10 ^ (R.length + 1) = natOf H := by
    rw [natOf_append, List.length_cons, Nat.add_comm, Nat.add_mul_div_right _ _ (Nat.pow_pos (by decide)), Nat.div_eq_of_lt hlt, Nat.zero_add]
  have e2 : natOf (H ++ x :: R) % 10 ^ (R.length + 1) = natOf (x :: R) := by
    rw [natOf_append, List.length_cons, Nat.add_comm, Nat.add_mul_mod_self_right, Nat.mod_eq_of_lt hlt]
  unfold rhe
  rw [e1, e2, hc, hpow]
  have hz : (0 < (bareL R).length) ↔ 0 < natOf R := by
    constructor
    · intro g
      rcases Nat.eq_zero_or_pos (natOf R) with z | z
      · rw [hb.2 z] at g; simp at g
      · exact z
    · intro g
      rcases Nat.eq_zero_or_pos (bareL R).length with z | z
      · rw [hb.1 (List.eq_nil_of_length_eq_zero z)] at g; omega
      · exact z
  generalize 10 ^ R.length = p at *
  generalize natOf R = r at *
  have hU : upB H x R = true ↔ (5 < x ∨ (x = 5 ∧ (0 < r ∨ natOf H % 2 = 1))) := by
    unfold upB
    simp only [Bool.or_eq_true, Bool.and_eq_true, decide_eq_true_eq]
    rw [hz]
  have key : (p * 10 < 2 * (x * p + r) ∨ (2 * (x * p + r) = p * 10 ∧ natOf H % 2 = 1)) ↔ (5 < x ∨ (x = 5 ∧ (0 < r ∨ natOf H % 2 = 1))) := by
    rcases (by omega : x ≤ 4 ∨ x = 5 ∨ 6 ≤ x) with g | g | g
    · have : x * p ≤ 4 * p := Nat.mul_le_mul_right _ g
      omega
    · subst g; omega
    · have : 6 * p ≤ x * p := Nat.mul_le_mul_right _ g
      omega
  by_cases g : upB H x R = true
  · rw [if_pos (key.2 (hU.1 g)), if_pos g]
  · rw [if_neg (fun q => g (hU.2 (key.1 q))), if_neg g]
    omega
/-- as far as a place the digits stand, behind it there are noughts -/
def inc (H : List Nat) (k : Nat) : List Nat := H.take k ++ List.replicate (H.length - k) 0
theorem inc_len (H : List Nat) (k : Nat) (h : k ≤ H.length) : (inc H k).length = H.length := by unfold inc; simp; omega
theorem inc_all (H : List Nat) : inc H H.length = H := by unfold inc; simp
theorem inc_split (H : List Nat) (m : Nat) (h : m < H.length) : inc H (m + 1) = H.take m ++ H[m] :: List.replicate (H.length - (m + 1)) 0 := by
  unfold inc
  rw [List.take_succ_eq_append_getElem h, List.append_assoc]
  rfl
theorem inc_get (H : List Nat) (m : Nat) (h : m < H.length) (h' : m < (inc H (m + 1)).length) : (inc H (m + 1))[m] = H[m] := by
  have h2 : (inc H (m + 1))[m]? = some H[m] := by
    rw [inc_split H m h, List.getElem?_append_right (by simp; omega), List.length_take, Nat.min_eq_left (by omega), Nat.sub_self]
    rfl
  rw [List.getElem?_eq_getElem h'] at h2
  injection h2
theorem inc_set (H : List Nat) (m c : Nat) (h : m < H.length) : (inc H (m + 1)).set m c = H.take m ++ c :: List.replicate (H.length - (m + 1)) 0 := by
  rw [inc_split H m h, List.set_append_right (h := by simp; omega), List.length_take, Nat.min_eq_left (by omega), Nat.sub_self, List.set_cons_zero]
theorem inc_down (H : List Nat) (m : Nat) (h : m < H.length) : (inc H (m + 1)).set m 0 = inc H m := by
  rw [inc_set H m 0 h]
  unfold inc
  rw [show H.length - m = (H.length - (m + 1)) + 1 by omega, List.replicate_succ]
/-- behind a place there are nines alone -/
def Nines (H : List Nat) (k : Nat) : Prop := H.drop k = List.replicate (H.length - k) 9
theorem Nines.all (H : List Nat) : Nines H H.length := by unfold Nines; simp
theorem Nines.down {H : List Nat} {m : Nat} (h : Nines H (m + 1)) (hm : m < H.length) (h9 : H[m] = 9) : Nines H m := by
  unfold Nines at h ⊢
  rw [List.drop_eq_getElem_cons hm, h, h9, show H.length - m = (H.length - (m + 1)) + 1 by omega, List.replicate_succ]
theorem inc_up (H : List Nat) (m : Nat) (hm : m < H.length) (h : Nines H (m + 1)) : natOf (H.take m ++ (H[m] + 1) :: List.replicate (H.length - (m + 1)) 0) = natOf H + 1 := by
  have hH : H = H.take m ++ H[m] :: List.replicate (H.length - (m + 1)) 9 := by
    have : H = H.take m ++ H.drop m := (List.take_append_drop m H).symm
    conv => lhs; rw [this]
    rw [List.drop_eq_getElem_cons hm, h]
  have h9 := natOf_nines (H.length - (m + 1))
  have h0 := natOf_zeros (H.length - (m + 1))
  have e2 : natOf H = natOf (H.take m ++ H[m] :: List.replicate (H.length - (m + 1)) 9) := congrArg natOf hH
  rw [e2]
  generalize H.length - (m + 1) = q at *
  rw [natOf_append, natOf_append, natOf_cons, natOf_cons]
  simp only [List.length_cons, List.length_replicate, Nat.add_mul]
  omega
theorem inc_over (H : List Nat) (h : Nines H 0) : natOf (1 :: List.replicate H.length 0) = natOf H + 1 := by
  unfold Nines at h
  simp only [List.drop_zero, Nat.sub_zero] at h
  have h9 := natOf_nines H.length
  have e2 : natOf H = natOf (List.replicate H.length 9) := congrArg natOf h
  rw [e2, natOf_cons, natOf_zeros, List.length_replicate]
  omega
theorem Dig.zeros (n : Nat) : Dig (List.replicate n 0) := fun d hd => by rw [List.mem_replicate] at hd; omega
theorem Dig.cons {d : Nat} {l : List Nat} (h1 : d ≤ 9) (h2 : Dig l) : Dig (d :: l) := fun x hx => by
  rcases List.mem_cons.1 hx with h | h
  · omega
  · exact h2 x h
/-- the first digit isn't 0 -/
def Lead (ds : List Nat) : Prop := ∀ d t, ds = d :: t → d ≠ 0
theorem lead_bare (ds : List Nat) : Lead (bareL ds) := fun d t h => bareL_head ds d t h
theorem Lead.take {ds : List Nat} (h : Lead ds) (n : Nat) : Lead (ds.take n) := by
  intro d t e
  cases ds with
  | nil => simp at e
  | cons x ds =>
    cases n with
    | zero => simp at e
    | succ n => simp at e; rw [← e.1]; exact h x ds rfl
theorem Lead.up {H : List Nat} (h : Lead H) (m : Nat) (hm : m < H.length) (l : List Nat) : Lead (H.take m ++ (H[m] + 1) :: l) := by
  intro d t e
  cases m with
  | zero => simp at e; omega
  | succ m =>
    cases H with
    | nil => simp at hm
    | cons x H => simp at e; rw [← e.1]; exact h x H rfl
theorem lead_len {ds : List Nat} (h : Lead ds) (hd : Dig ds) : dlen (natOf ds) = ds.length := by
  cases ds with
  | nil => rfl
  | cons d t => exact dlen_natOf d t hd (h d t rfl)
theorem last_odd (H : List Nat) (n : Nat) (hn : n + 1 = H.length) : natOf H % 2 = H[n] % 2 := by
  have : H = H.take n ++ [H[n]] := by
    rw [← List.take_succ_eq_append_getElem (by omega), List.take_of_length_le (by omega)]
  have e : natOf H = 10 * natOf (H.take n) + H[n] := by
    have := congrArg natOf this
    rw [natOf_snoc] at this
    exact this
  omega
end Go.Proofs.YtcgdeoldgnjdeaaDoor
