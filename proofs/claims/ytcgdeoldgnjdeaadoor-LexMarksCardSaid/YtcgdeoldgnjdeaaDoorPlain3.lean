/-
  Plain words: words, marks, signs, as lex reads them.
-/
import Derived.Test.YtcgdeoldgnjdeaaDoorPlain2
import Derived.Lib.Strings
import Derived.Lib.Bytealg
namespace Go.Proofs.YtcgdeoldgnjdeaaDoor
open Go.RowKit

/-- a byte of a word -/
def isWord (c : UInt8) : Bool := isLetter c || isDigit c || c == 95 || c == 46 || c == 36
def dollars (l : Bs) : Nat := l.count 36
theorem dollars_snoc (l : Bs) (c : UInt8) : dollars (l ++ [c]) = dollars l + if c == 36 then 1 else 0 := by simp [dollars, List.count_append, List.count_singleton]
theorem dollars_le (l : Bs) : dollars l ≤ l.length := List.count_le_length
/-- what is left of a mark behind its letters -/
def pTail (r : Bs) : Bool := decide (runP isDigit r = r.length) && decide (1 ≤ runP isDigit r) && decide (runP isDigit r ≤ 7) && !atIs r 0 48
def pMark1 (fixed : Bool) (s : Bs) : Bool :=
  if 3 < runP isLetter s then false
  else if (s.drop (runP isLetter s)).isEmpty then fixed && decide (0 < runP isLetter s)
  else if 0 < runP isLetter s then pTail (Lib.trimPrefix (s.drop (runP isLetter s)) [36])
  else if fixed then pTail (s.drop (runP isLetter s)) else false
def pMark (l : Bs) : Bool := pMark1 (Lib.hasPrefix l [36]) (Lib.trimPrefix l [36])
/-- the signs -/
def signs1 : Bs := [43, 45, 42, 47, 94, 38, 61, 60, 62, 37, 40, 41, 123, 125, 44, 59, 58, 35]
def pSign (l : Bs) : Nat := if Lib.hasPrefix l [60, 62] || Lib.hasPrefix l [60, 61] || Lib.hasPrefix l [62, 61] then 2 else if 0 ≤ Lib.indexByte signs1 (l.headD 0) then 1 else 0
/-- a word: kind, text, size -/
def pWord (l : Bs) : Nat × Bs × Nat :=
  if pMark (l.take (runP isWord l)) then (4, l.take (runP isWord l), runP isWord l)
  else if dollars (l.take (runP isWord l)) = 0 then (3, l.take (runP isWord l), runP isWord l) else (0, [], 0)
theorem trim_len (l p : Bs) : (Lib.trimPrefix l p).length ≤ l.length := by
  unfold Lib.trimPrefix; split
  · rw [List.length_drop]; omega
  · exact Nat.le_refl _

end Go.Proofs.YtcgdeoldgnjdeaaDoor
