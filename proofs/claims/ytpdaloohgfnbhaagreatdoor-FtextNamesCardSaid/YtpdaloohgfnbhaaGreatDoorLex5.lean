/-
  lex: isDigit, isLetter, run, number, word, sign, isMark; wraps of package strings (merged: Lex1, Lex2, StrWraps, Lex3, Lex4, Lex5).
-/
import Derived.Test.YtpdaloohgfnbhaaGreatDoorKit
import Derived.Test.YtpdaloohgfnbhaaGreatDoorPlainQ
import Derived.Test.YtpdaloohgfnbhaaGreatDoorPl1
import Derived.Test.YtpdaloohgfnbhaaGreatDoorShelf
import Derived.OneCell
namespace Go.Proofs.YtpdaloohgfnbhaaGreatDoor
open Go.RowKit

theorem drop_len {l : Bs} {n k : Nat} (h : l.length ≤ n) : (l.drop k).length ≤ n := by rw [List.length_drop]; omega
theorem hasPrefix_any (s p : Bs) (w : World) :
    Calls Tryz.prog 102 #[.string ⟨s.toArray⟩, .string ⟨p.toArray⟩] w fun e w' => e = .returned (.bool (Lib.hasPrefix s p)) ∧ w = w' :=
  (Tryz.strings_HasPrefix ⟨s.toArray⟩ ⟨p.toArray⟩ w).mono fun _ _ ⟨h1, h2⟩ => ⟨h1, h2.symm⟩
theorem u8_back (c : UInt8) : ((c.toNat : Int)).toNat.toUInt8 = c := by
  apply u8_eq; simp [Nat.toUInt8]
/-- What is left of a mark. -/
theorem isMark_tail (r : Bs) : pTail r = true ↔ (runP isDigit r = r.length ∧ 1 ≤ runP isDigit r ∧ runP isDigit r ≤ 7 ∧ atIs r 0 48 = false) := by
  unfold pTail; simp [and_assoc]
/-- a token as the program's functions tell it: kind, text, size -/
abbrev tokV (x : Nat × Bs × Nat) : Value := .tuple #[.int .i64 x.1, .string ⟨x.2.1.toArray⟩, .int .i64 x.2.2]
theorem ret_tok {x : Nat × Bs × Nat} {k : Int} {t : Bs} {n : Int} (h : (k, t, n) = ((x.1 : Int), x.2.1, (x.2.2 : Int))) : Ending.returned (.tuple #[.int .i64 k, .string ⟨t.toArray⟩, .int .i64 n]) = .returned (tokV x) := by
  simp only [Prod.mk.injEq] at h
  obtain ⟨rfl, rfl, rfl⟩ := h
  rfl
end Go.Proofs.YtpdaloohgfnbhaaGreatDoor
