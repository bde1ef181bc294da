/-
  lex.word: what it returns.
-/
import Derived.Test.YtcgdeoldgnjdeaaDoorLex4
namespace Go.Proofs.YtcgdeoldgnjdeaaDoor
open Go.RowKit

/-- a token as the program's functions tell it: kind, text, size -/
abbrev tokV (x : Nat × Bs × Nat) : Value := .tuple #[.int .i64 x.1, .string ⟨x.2.1.toArray⟩, .int .i64 x.2.2]
theorem ret_tok {x : Nat × Bs × Nat} {k : Int} {t : Bs} {n : Int} (h : (k, t, n) = ((x.1 : Int), x.2.1, (x.2.2 : Int))) : Ending.returned (.tuple #[.int .i64 k, .string ⟨t.toArray⟩, .int .i64 n]) = .returned (tokV x) := by
  simp only [Prod.mk.injEq] at h
  obtain ⟨rfl, rfl, rfl⟩ := h
  rfl
set_option maxHeartbeats 800000 in
theorem word_any (l : Bs) (w : World) (hs : l.length ≤ maxLen) :
    Calls Tryd.prog 109 #[.string ⟨l.toArray⟩] w fun e w' => e = .returned (tokV (pWord l)) ∧ Below w.heap.size w w' := by
  have hN : pWord l = if pMark (l.take (runP isWord l)) then (4, l.take (runP isWord l), runP isWord l) else if dollars (l.take (runP isWord l)) = 0 then (3, l.take (runP isWord l), runP isWord l) else (0, [], 0) := rfl
  have HN := Lib.hid hN
  clear hN
  have hr := runP_le isWord l
  have hs' := hs
  unfold maxLen at hs'
  generalize pWord l = r at *
  go_enter Tryd.func109, Tryd.ntmps109
  go_wp2_with fail
  refine (runWord_any l w.heap.size _ hs (heap_alloc_new w _)).mono ?_
  rintro e w1 ⟨rfl, hb1, hbel⟩
  generalize runP isWord l = n at *
  have hc := cell_of_one hb1
  have HB : Below w.heap.size w w1 := ((Below.refl _ w).alloc (Nat.le_refl _) _).trans hbel
  have ht : (l.take n).length ≤ maxLen := by rw [List.length_take]; omega
  clear hb1 hbel
  go_wp2_with fail
  generalize l.take n = t at *
  refine (isMark_any t _ ht).mono ?_
  rintro e w' ⟨rfl, rfl⟩
  cases hm : pMark t
  · rw [hm, if_neg (by simp)] at HN
    by_cases hd : dollars t = 0
    · rw [if_pos hd] at HN
      have hd' : (((dollars t : Nat) : Int) == 0) = true := by simp; omega
      have HD := Lib.hid hd
      clear hd
      go_wp2_with fail
      go_ret3
      exact ⟨by rw [HN.out]; rfl, HB⟩
    · rw [if_neg hd] at HN
      have hd' : (((dollars t : Nat) : Int) == 0) = false := by simp; omega
      go_wp2_with fail
      go_ret3
      exact ⟨by rw [HN.out]; rfl, HB⟩
  · rw [hm, if_pos rfl] at HN
    go_wp2_with fail
    go_ret3
    exact ⟨by rw [HN.out]; rfl, HB⟩
end Go.Proofs.YtcgdeoldgnjdeaaDoor
