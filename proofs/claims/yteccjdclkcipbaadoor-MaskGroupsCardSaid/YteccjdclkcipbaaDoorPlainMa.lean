/-
  mask in plain words: the parts of a format's text, its sections, what they show of a number.
-/
import Derived.Test.YteccjdclkcipbaaDoorNum9
import Derived.Test.YteccjdclkcipbaaDoorNum10
import Derived.Lib.CutLaws
namespace Go.Proofs.YteccjdclkcipbaaDoor
open Go.RowKit

/-- a part: kind 0 a literal, 1 percent, 2 insert, 3 general, 4 places -/
structure MP where
  kind : Nat
  text : Bs
  whole : Nat
  comma : Bool
  point : Bool
  most : Nat
  least : Nat
def mp0 : MP := ⟨0, [], 0, false, false, 0, 0⟩
structure MS where
  parts : List MP
  percents : Nat
  number : Bool
def ms0 : MS := ⟨[], 0, false⟩
/-- signs # and commas; nf: not the first place -/
def hashN : Bool → Bs → Nat × Bool
  | _, [] => (0, false)
  | nf, c :: t => if c = 35 then ((hashN true t).1 + 1, (hashN true t).2) else if c = 44 ∧ nf = true then ((hashN true t).1 + 1, true) else (0, false)
/-- signs 0 and commas -/
def zeroN : Bool → Bs → Nat × Bool × Nat
  | _, [] => (0, false, 0)
  | nf, c :: t => if c = 48 then ((zeroN true t).1 + 1, (zeroN true t).2.1, (zeroN true t).2.2 + 1) else if c = 44 ∧ nf = true then ((zeroN true t).1 + 1, true, (zeroN true t).2.2) else (0, false, 0)
def pDigits (l : Bs) : MP × Nat × Int :=
  let a := hashN false l
  let b := zeroN (decide (0 < a.1)) (l.drop a.1)
  let i := a.1 + b.1
  if atIs l i 46 = true then
    let z := runP (fun c => c == 48) (l.drop (i + 1))
    let h := runP (fun c => c == 35) (l.drop (i + 1 + z))
    if i = 0 ∧ z + h = 0 then (mp0, 0, 6) else (⟨4, [], b.2.2, a.2 || b.2.1, true, z + h, z⟩, i + 1 + z + h, 0)
  else (⟨4, [], b.2.2, a.2 || b.2.1, false, 0, 0⟩, i, 0)
def plainC (c : UInt8) : Bool := c == 32 || c == 36 || c == 45 || c == 43 || c == 40 || c == 41 || c == 47 || c == 58
def generalW : Bs := [71, 69, 78, 69, 82, 65, 76]
/-- does the word GENERAL stand ahead, and no letter behind it? -/
def isGen (l : Bs) : Bool := !decide (l.length < 7) && pFold (l.take 7) == generalW && !(decide (7 < l.length) && ((l[7]?).map isLetter).getD false)
def pNextC (c : UInt8) (t : Bs) : MP × Nat × Int :=
    if c = 34 then (if 0 ≤ Lib.indexByte t 34 then ({ mp0 with text := t.take (Lib.indexByte t 34).toNat }, (Lib.indexByte t 34).toNat + 2, 0) else (mp0, 0, 13))
    else if c = 92 then (if t = [] then (mp0, 0, 13) else ({ mp0 with text := t.take 1 }, 2, 0))
    else if plainC c = true then ({ mp0 with text := [c] }, 1, 0)
    else if c = 37 then ({ mp0 with kind := 1, text := [37] }, 1, 0)
    else if c = 64 then ({ mp0 with kind := 2 }, 1, 0)
    else if c = 35 ∨ c = 48 ∨ c = 46 then pDigits (c :: t)
    else if isGen (c :: t) = true then ({ mp0 with kind := 3 }, 7, 0) else (mp0, 0, 6)
def pNext : Bs → MP × Nat × Int
  | [] => (mp0, 0, 6)
  | c :: t => pNextC c t
def pAdd (s : MS) (p : MP) (fourth : Bool) : Option MS :=
  if p.kind = 2 then (if fourth = true then some { s with parts := s.parts ++ [p] } else none)
  else if p.kind = 1 then (if fourth = true then none else some { s with parts := s.parts ++ [p], percents := s.percents + 1 })
  else if p.kind = 3 ∨ p.kind = 4 then (if fourth = true ∨ s.number = true then none else some { s with parts := s.parts ++ [p], number := true })
  else some { s with parts := s.parts ++ [p] }
/-- the sections of what is left, behind those that are done and the one that is open; or the place and the error -/
def mGo : Nat → Bs → Nat → List MS → MS → List MS ⊕ (Nat × Int)
  | 0, _, _, done, cur => .inl (done ++ [cur])
  | _ + 1, [], _, done, cur => .inl (done ++ [cur])
  | f + 1, c :: t, a, done, cur =>
    if c = 59 then (if done.length = 3 then .inr (a, 10) else mGo f t (a + 1) (done ++ [cur]) ms0)
    else if (pNext (c :: t)).2.2 = 13 then .inr (a + (c :: t).length, 13)
    else if (pNext (c :: t)).2.2 ≠ 0 then .inr (a, 6)
    else match pAdd cur (pNext (c :: t)).1 (decide (done.length = 3)) with
      | none => .inr (a, 6)
      | some x => mGo f ((c :: t).drop (pNext (c :: t)).2.1) (a + (pNext (c :: t)).2.1) done x
def mParse (l : Bs) : List MS ⊕ (Nat × Int) := if 255 < l.length then .inr (0, 14) else mGo l.length l 0 [] ms0
/-- num.Round of a right number -/
def nRound (m e : Int) (k : Nat) : Int × Int :=
  if 40 ≤ k ∨ -(k : Int) ≤ e then (m, e)
  else if 15 < -(k : Int) - e then (0, 0)
  else
    let u := 10 ^ (-(k : Int) - e).toNat
    let t := pTrim (m.natAbs / u + if u ≤ m.natAbs % u * 2 then 1 else 0) (-(k : Int))
    if pRight (sg (decide (m < 0)) t.1) t.2 = true then (sg (decide (m < 0)) t.1, t.2) else (m, e)
/-- a comma ahead of each three digits from the right -/
def groupG : Bs → Bs
  | [] => []
  | c :: t => c :: ((if 0 < t.length ∧ t.length % 3 = 0 then [44] else []) ++ groupG t)
/-- is there a comma ahead of place i? -/
def commaAt (n i : Nat) : Bool := decide (0 < i) && decide ((n - i) % 3 = 0)
def gRest (l : Bs) (i : Nat) : Bs := (if i < l.length ∧ commaAt l.length i = true then [44] else []) ++ groupG (l.drop i)
def GInv (l acc : Bs) (i : Nat) : Prop := i ≤ l.length ∧ acc.length ≤ 2 * i ∧ acc ++ gRest l i = groupG l
theorem GInv.start (l : Bs) : GInv l [] 0 := ⟨Nat.zero_le _, Nat.le_refl _, by simp [gRest, commaAt]⟩
theorem GInv.step {l acc : Bs} {i : Nat} (h : GInv l acc i) (hi : i < l.length) : GInv l ((if commaAt l.length i = true then acc ++ [44] else acc) ++ [l[i]]) (i + 1) := by
  obtain ⟨_, h2, h3⟩ := h
  refine ⟨hi, by split <;> simp <;> omega, ?_⟩
  rw [← h3]
  have e : gRest l (i + 1) = (if 0 < (l.drop (i + 1)).length ∧ (l.drop (i + 1)).length % 3 = 0 then [44] else []) ++ groupG (l.drop (i + 1)) := by
    unfold gRest commaAt
    congr 1
    rw [List.length_drop]
    by_cases h1 : i + 1 < l.length
    · by_cases h2 : (l.length - (i + 1)) % 3 = 0
      · rw [if_pos ⟨h1, by simp [h2]⟩, if_pos ⟨by omega, h2⟩]
      · rw [if_neg (by simp [h2]), if_neg (by omega)]
    · rw [if_neg (by omega), if_neg (by omega)]
  have e2 : gRest l i = (if commaAt l.length i = true then [44] else []) ++ (l[i] :: gRest l (i + 1)) := by
    rw [e]
    conv => lhs; unfold gRest
    rw [List.drop_eq_getElem_cons hi]
    simp only [hi, true_and, groupG]
  rw [e2]
  split <;> simp
theorem GInv.done {l acc : Bs} {i : Nat} (h : GInv l acc i) (hi : ¬ i < l.length) : acc = groupG l := by
  rw [← h.2.2]
  unfold gRest
  rw [if_neg (by omega), List.drop_of_length_le (by omega)]
  simp [groupG]
theorem rb {m e : Int} (h : pRight m e = true) : -1000000000000000 < m ∧ m < 1000000000000000 := by
  by_cases hz : m = 0
  · omega
  · have := pRight_of h hz
    omega
/-- what places show of a right number that isn't below 0 -/
def pPlaces (p : MP) (m e : Int) : Bs :=
  let t := nText (nRound m e p.most).1 (nRound m e p.most).2
  let c := Lib.cut t [46]
  let w0 := if c.1 = [48] then [] else c.1
  let w1 := List.replicate (p.whole - w0.length) 48 ++ w0
  let w2 := if p.comma then groupG w1 else w1
  if p.point then w2 ++ [46] ++ c.2.1 ++ List.replicate (p.least - c.2.1.length) 48 else w2
def partText (p : MP) (m e : Int) : Bs := if p.kind = 3 then nText m e else if p.kind = 4 then pPlaces p m e else p.text
def oneNine (l : Bs) : Bool := l.any fun c => decide (49 ≤ c.toNat) && decide (c.toNat ≤ 57)
def partSome (p : MP) (m e : Int) : Bool := (decide (p.kind = 3) || decide (p.kind = 4)) && oneNine (partText p m e)
/-- times hundred, so often -/
def hundred : Nat → Int × Int → Option (Int × Int)
  | 0, x => some x
  | k + 1, x => (pNear (decide (x.1 < 0)) x.1.natAbs (x.2 + 2)).bind (hundred k)
def secOf (L : List MS) (m : Int) : MS :=
  if L.length = 0 then ⟨[{ mp0 with kind := 3 }], 0, false⟩
  else if m < 0 ∧ 2 ≤ L.length then L.getD 1 ms0
  else if m = 0 ∧ 3 ≤ L.length then L.getD 2 ms0
  else L.getD 0 ms0
def numText : Bs := [35, 78, 85, 77, 33]
def mNumber (L : List MS) (m e : Int) : Bs :=
  match hundred (secOf L m).percents (m.natAbs, e) with
  | none => numText
  | some x =>
    let b := (secOf L m).parts.flatMap fun p => partText p x.1 x.2
    if m < 0 ∧ L.length < 2 ∧ ((secOf L m).parts.any fun p => partSome p x.1 x.2) = true then 45 :: b else b
/-- what a format shows of a text -/
def pInsert (L : List MS) (t : Bs) : Bs := if L.length = 4 then (L.getD 3 ms0).parts.flatMap fun p => (if p.kind = 2 then t else []) ++ p.text else t
end Go.Proofs.YteccjdclkcipbaaDoor
