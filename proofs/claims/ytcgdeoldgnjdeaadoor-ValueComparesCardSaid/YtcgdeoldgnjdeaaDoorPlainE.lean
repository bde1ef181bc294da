/-
  Plain words: a number's digits.
-/
import Derived.Test.YtcgdeoldgnjdeaaDoorPlainU
namespace Go.Proofs.YtcgdeoldgnjdeaaDoor
open Go.RowKit

def dlF : Nat → Nat → List Nat
  | 0, _ => []
  | f + 1, n => if n = 0 then [] else dlF f (n / 10) ++ [n % 10]
/-- a number's digits, the first one first; 0 has none -/
def dl (n : Nat) : List Nat := dlF n n
theorem dlF_fuel : ∀ f g n, n ≤ f → n ≤ g → dlF f n = dlF g n := by
  intro f
  induction f with
  | zero =>
    intro g n h1 h2
    obtain rfl : n = 0 := by omega
    cases g <;> simp [dlF]
  | succ f ih =>
    intro g n h1 h2
    cases g with
    | zero =>
      obtain rfl : n = 0 := by omega
      simp [dlF]
    | succ g =>
      simp only [dlF]
      split
      · rfl
      · rw [ih g (n / 10) (by omega) (by omega)]
theorem dl_zero : dl 0 = [] := rfl
theorem dl_step (n : Nat) (h : 0 < n) : dl n = dl (n / 10) ++ [n % 10] := by
  unfold dl
  obtain ⟨f, rfl⟩ : ∃ f, n = f + 1 := ⟨n - 1, by omega⟩
  rw [dlF, if_neg (by omega), dlF_fuel f ((f + 1) / 10) _ (by omega) (Nat.le_refl _)]
theorem dl_ind (P : Nat → Prop) (h0 : P 0) (hs : ∀ n, 0 < n → P (n / 10) → P n) : ∀ n, P n := by
  intro n
  induction n using Nat.strongRecOn with
  | _ n ih =>
    rcases Nat.eq_zero_or_pos n with h | h
    · rw [h]; exact h0
    · exact hs n h (ih (n / 10) (by omega))
theorem dl_nat (n : Nat) : natOf (dl n) = n := by
  refine dl_ind (fun n => natOf (dl n) = n) rfl (fun n h ih => ?_) n
  rw [dl_step n h, natOf_snoc, ih]
  omega
theorem dl_dig (n : Nat) : Dig (dl n) := by
  refine dl_ind (fun n => Dig (dl n)) (fun _ h => by cases h) (fun n h ih => ?_) n
  rw [dl_step n h]
  exact ih.append (fun d hd => by simp at hd; omega)
theorem dl_ne (n : Nat) (h : 0 < n) : dl n ≠ [] := by rw [dl_step n h]; simp
theorem dl_lead (n : Nat) : Lead (dl n) := by
  refine dl_ind (fun n => Lead (dl n)) (fun d t h => by cases h) (fun n h ih => ?_) n
  intro d t e
  rw [dl_step n h] at e
  rcases Nat.eq_zero_or_pos (n / 10) with z | z
  · rw [z, dl_zero] at e
    simp at e
    omega
  · cases hd : dl (n / 10) with
    | nil => exact absurd hd (dl_ne _ z)
    | cons x l =>
      rw [hd] at e ih
      simp at e
      rw [← e.1]
      exact ih x l rfl
theorem dl_len (n : Nat) : (dl n).length = dlen n := by
  rw [← lead_len (dl_lead n) (dl_dig n), dl_nat]
theorem dl_len_le (n : Nat) (h : n < 18446744073709551616) : (dl n).length ≤ 20 := by
  rw [dl_len]
  rcases Nat.eq_zero_or_pos n with z | z
  · rw [z, dlen_zero]; omega
  · have h1 := dlen_ge n z
    have h2 : 10 ^ (dlen n - 1) < 10 ^ 20 := Nat.lt_of_le_of_lt h1 (Nat.lt_of_lt_of_le h (by decide))
    have := pow_lt_inv h2
    omega
end Go.Proofs.YtcgdeoldgnjdeaaDoor
