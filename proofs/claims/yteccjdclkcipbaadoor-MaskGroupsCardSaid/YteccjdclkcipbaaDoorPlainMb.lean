/-
  A rounded number is right; its text is short.
-/
import Derived.Test.YteccjdclkcipbaaDoorPlainMa
import Derived.Test.YteccjdclkcipbaaDoorPlainH
namespace Go.Proofs.YteccjdclkcipbaaDoor
open Go.RowKit

theorem nText_short (m e : Int) (hR : pRight m e = true) : (nText m e).length ≤ 255 := by
  rcases Nat.lt_or_ge 255 (nText m e).length with hl | hl
  · have hp := parse_text _ _ hR
    unfold pParse at hp
    rw [if_pos hl] at hp
    cases hp
  · exact hl
theorem nRound_right (m e : Int) (k : Nat) (hR : pRight m e = true) : pRight (nRound m e k).1 (nRound m e k).2 = true := by
  unfold nRound
  split
  · exact hR
  · split
    · decide
    · dsimp only
      generalize pTrim (m.natAbs / 10 ^ (-(k : Int) - e).toNat + if 10 ^ (-(k : Int) - e).toNat ≤ m.natAbs % 10 ^ (-(k : Int) - e).toNat * 2 then 1 else 0) (-(k : Int)) = t
      by_cases h : pRight (sg (decide (m < 0)) t.1) t.2 = true
      · rw [if_pos h]; exact h
      · rw [if_neg h]; exact hR
theorem cut_short (l sep : Bs) : (Lib.cut l sep).1.length ≤ l.length ∧ (Lib.cut l sep).2.1.length ≤ l.length := by
  unfold Lib.cut
  split <;> simp <;> omega
theorem groupG_len : ∀ l : Bs, (groupG l).length ≤ 2 * l.length
  | [] => Nat.le_refl _
  | c :: t => by
    have := groupG_len t
    unfold groupG
    rw [List.length_cons, List.length_append, List.length_cons]
    split <;> simp <;> omega
end Go.Proofs.YteccjdclkcipbaaDoor
