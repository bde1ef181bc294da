/-
  A comma ahead of each three digits: where they stand, how many there are.
-/
import Derived.Test.YteccjdclkcipbaaDoorPlainMe
namespace Go.Proofs.YteccjdclkcipbaaDoor
open Go.RowKit

theorem groupG_count : ∀ l : Bs, (groupG l).length = l.length + (l.length - 1) / 3
  | [] => rfl
  | c :: t => by
    have ih := groupG_count t
    unfold groupG
    rw [List.length_cons, List.length_append, ih, List.length_cons]
    split
    · rw [List.length_cons, List.length_nil]; omega
    · rw [List.length_nil]; omega
theorem groupG_filter : ∀ l : Bs, (∀ c ∈ l, c ≠ 44) → (groupG l).filter (fun c => c != 44) = l
  | [], _ => rfl
  | c :: t, h => by
    have ih := groupG_filter t (fun x hx => h x (List.mem_cons_of_mem _ hx))
    have hc : (c != 44) = true := by simpa using h c (List.mem_cons_self ..)
    unfold groupG
    rw [List.filter_cons, if_pos hc, List.filter_append, ih]
    split <;> simp
/-- where a comma stands -/
def CommaOk (b : Bs) : Prop := ∀ i, b[i]? = some 44 → (b.length - i) % 4 = 0 ∧ 0 < i ∧ ∃ d, b[i - 1]? = some d ∧ isDigit d = true
theorem groupG_ok : ∀ l : Bs, AllDig l → CommaOk (groupG l)
  | [], _, i, h => by simp [groupG] at h
  | c :: t, hd, i, h => by
    have ih := groupG_ok t (fun x hx => hd x (List.mem_cons_of_mem _ hx))
    have hc := hd c (List.mem_cons_self ..)
    have hc44 : c ≠ 44 := fun e => by subst e; exact absurd hc (by decide)
    have hl := groupG_count t
    unfold groupG at h ⊢
    by_cases hs : 0 < t.length ∧ t.length % 3 = 0
    · rw [if_pos hs] at h ⊢
      match i, h with
      | 0, h => exact absurd (by simpa using h) hc44
      | 1, h => exact ⟨by simp only [List.length_cons, List.length_append, List.length_nil]; omega, by decide, c, rfl, hc⟩
      | i + 2, h =>
        have h' : (groupG t)[i]? = some 44 := by simpa using h
        obtain ⟨k1, k2, d, k3, k4⟩ := ih i h'
        refine ⟨?_, by omega, d, ?_, k4⟩
        · simp only [List.length_cons, List.length_append, List.length_nil]
          have hi : i < (groupG t).length := (List.getElem?_eq_some_iff.1 h').1
          omega
        · rw [show i + 2 - 1 = (i - 1) + 2 by omega]
          simpa using k3
    · rw [if_neg hs] at h ⊢
      match i, h with
      | 0, h => exact absurd (by simpa using h) hc44
      | i + 1, h =>
        have h' : (groupG t)[i]? = some 44 := by simpa using h
        obtain ⟨k1, k2, d, k3, k4⟩ := ih i h'
        refine ⟨?_, by omega, d, ?_, k4⟩
        · simp only [List.length_cons, List.nil_append]
          have hi : i < (groupG t).length := (List.getElem?_eq_some_iff.1 h').1
          omega
        · rw [show i + 1 - 1 = (i - 1) + 1 by omega]
          simpa using k3
theorem commaOk_sign {b : Bs} (h : CommaOk b) (neg : Bool) : CommaOk (sgB neg ++ b) := by
  cases neg
  · exact h
  · intro i hi
    match i, hi with
    | 0, hi => simp [sgB] at hi
    | i + 1, hi =>
      have h' : b[i]? = some 44 := by simpa [sgB] using hi
      obtain ⟨k1, k2, d, k3, k4⟩ := h i h'
      have hlt : i < b.length := (List.getElem?_eq_some_iff.1 h').1
      refine ⟨?_, by omega, d, ?_, k4⟩
      · simp only [sgB, if_true, List.length_append, List.length_cons, List.length_nil]; omega
      · rw [show i + 1 - 1 = (i - 1) + 1 by omega]
        simpa [sgB] using k3
end Go.Proofs.YteccjdclkcipbaaDoor
