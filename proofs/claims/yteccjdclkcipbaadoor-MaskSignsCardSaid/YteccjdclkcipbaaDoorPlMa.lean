/-
  mask in plain words: parts, sections, what they show; reading and rounding.
-/
import Derived.Test.YteccjdclkcipbaaDoorNum9
import Derived.Test.YteccjdclkcipbaaDoorNum10
import Derived.Lib.CutLaws
import Derived.Test.YteccjdclkcipbaaDoorPlainH
import Derived.Test.YteccjdclkcipbaaDoorPlainQ
import Derived.Test.YteccjdclkcipbaaDoorNum2
import Derived.Lib.IndexAny
namespace Go.Proofs.YteccjdclkcipbaaDoor
open Go.RowKit

/-- a part: kind 0 a literal, 1 percent, 2 insert, 3 general, 4 places -/
structure MP where
  kind : Nat
  text : Bs
  whole : Nat
  comma : Bool
  point : Bool
  most : Nat
  least : Nat
def mp0 : MP := ⟨0, [], 0, false, false, 0, 0⟩
structure MS where
  parts : List MP
  percents : Nat
  number : Bool
def ms0 : MS := ⟨[], 0, false⟩
/-- signs # and commas; nf: not the first place -/
def hashN : Bool → Bs → Nat × Bool
  | _, [] => (0, false)
  | nf, c :: t => if c = 35 then ((hashN true t).1 + 1, (hashN true t).2) else if c = 44 ∧ nf = true then ((hashN true t).1 + 1, true) else (0, false)
/-- signs 0 and commas -/
def zeroN : Bool → Bs → Nat × Bool × Nat
  | _, [] => (0, false, 0)
  | nf, c :: t => if c = 48 then ((zeroN true t).1 + 1, (zeroN true t).2.1, (zeroN true t).2.2 + 1) else if c = 44 ∧ nf = true then ((zeroN true t).1 + 1, true, (zeroN true t).2.2) else (0, false, 0)
def pDigits (l : Bs) : MP × Nat × Int :=
  let a := hashN false l
  let b := zeroN (decide (0 < a.1)) (l.drop a.1)
  let i := a.1 + b.1
  if atIs l i 46 = true then
    let z := runP (fun c => c == 48) (l.drop (i + 1))
    let h := runP (fun c => c == 35) (l.drop (i + 1 + z))
    if i = 0 ∧ z + h = 0 then (mp0, 0, 6) else (⟨4, [], b.2.2, a.2 || b.2.1, true, z + h, z⟩, i + 1 + z + h, 0)
  else (⟨4, [], b.2.2, a.2 || b.2.1, false, 0, 0⟩, i, 0)
def plainC (c : UInt8) : Bool := c == 32 || c == 36 || c == 45 || c == 43 || c == 40 || c == 41 || c == 47 || c == 58
def generalW : Bs := [71, 69, 78, 69, 82, 65, 76]
/-- does the word GENERAL stand ahead, and no letter behind it? -/
def isGen (l : Bs) : Bool := !decide (l.length < 7) && pFold (l.take 7) == generalW && !(decide (7 < l.length) && ((l[7]?).map isLetter).getD false)
def pNextC (c : UInt8) (t : Bs) : MP × Nat × Int :=
    if c = 34 then (if 0 ≤ Lib.indexByte t 34 then ({ mp0 with text := t.take (Lib.indexByte t 34).toNat }, (Lib.indexByte t 34).toNat + 2, 0) else (mp0, 0, 13))
    else if c = 92 then (if t = [] then (mp0, 0, 13) else ({ mp0 with text := t.take 1 }, 2, 0))
    else if plainC c = true then ({ mp0 with text := [c] }, 1, 0)
    else if c = 37 then ({ mp0 with kind := 1, text := [37] }, 1, 0)
    else if c = 64 then ({ mp0 with kind := 2 }, 1, 0)
    else if c = 35 ∨ c = 48 ∨ c = 46 then pDigits (c :: t)
    else if isGen (c :: t) = true then ({ mp0 with kind := 3 }, 7, 0) else (mp0, 0, 6)
def pNext : Bs → MP × Nat × Int
  | [] => (mp0, 0, 6)
  | c :: t => pNextC c t
def pAdd (s : MS) (p : MP) (fourth : Bool) : Option MS :=
  if p.kind = 2 then (if fourth = true then some { s with parts := s.parts ++ [p] } else none)
  else if p.kind = 1 then (if fourth = true then none else some { s with parts := s.parts ++ [p], percents := s.percents + 1 })
  else if p.kind = 3 ∨ p.kind = 4 then (if fourth = true ∨ s.number = true then none else some { s with parts := s.parts ++ [p], number := true })
  else some { s with parts := s.parts ++ [p] }
/-- the sections of what is left, behind those that are done and the one that is open; or the place and the error -/
def mGo : Nat → Bs → Nat → List MS → MS → List MS ⊕ (Nat × Int)
  | 0, _, _, done, cur => .inl (done ++ [cur])
  | _ + 1, [], _, done, cur => .inl (done ++ [cur])
  | f + 1, c :: t, a, done, cur =>
    if c = 59 then (if done.length = 3 then .inr (a, 10) else mGo f t (a + 1) (done ++ [cur]) ms0)
    else if (pNext (c :: t)).2.2 = 13 then .inr (a + (c :: t).length, 13)
    else if (pNext (c :: t)).2.2 ≠ 0 then .inr (a, 6)
    else match pAdd cur (pNext (c :: t)).1 (decide (done.length = 3)) with
      | none => .inr (a, 6)
      | some x => mGo f ((c :: t).drop (pNext (c :: t)).2.1) (a + (pNext (c :: t)).2.1) done x
def mParse (l : Bs) : List MS ⊕ (Nat × Int) := if 255 < l.length then .inr (0, 14) else mGo l.length l 0 [] ms0
/-- num.Round of a right number -/
def nRound (m e : Int) (k : Nat) : Int × Int :=
  if 40 ≤ k ∨ -(k : Int) ≤ e then (m, e)
  else if 15 < -(k : Int) - e then (0, 0)
  else
    let u := 10 ^ (-(k : Int) - e).toNat
    let t := pTrim (m.natAbs / u + if u ≤ m.natAbs % u * 2 then 1 else 0) (-(k : Int))
    if pRight (sg (decide (m < 0)) t.1) t.2 = true then (sg (decide (m < 0)) t.1, t.2) else (m, e)
/-- a comma ahead of each three digits from the right -/
def groupG : Bs → Bs
  | [] => []
  | c :: t => c :: ((if 0 < t.length ∧ t.length % 3 = 0 then [44] else []) ++ groupG t)
/-- is there a comma ahead of place i? -/
def commaAt (n i : Nat) : Bool := decide (0 < i) && decide ((n - i) % 3 = 0)
def gRest (l : Bs) (i : Nat) : Bs := (if i < l.length ∧ commaAt l.length i = true then [44] else []) ++ groupG (l.drop i)
def GInv (l acc : Bs) (i : Nat) : Prop := i ≤ l.length ∧ acc.length ≤ 2 * i ∧ acc ++ gRest l i = groupG l
theorem GInv.start (l : Bs) : GInv l [] 0 := ⟨Nat.zero_le _, Nat.le_refl _, by simp [gRest, commaAt]⟩
theorem GInv.step {l acc : Bs} {i : Nat} (h : GInv l acc i) (hi : i < l.length) : GInv l ((if commaAt l.length i = true then acc ++ [44] else acc) ++ [l[i]]) (i + 1) := by
  obtain ⟨_, h2, h3⟩ := h
  refine ⟨hi, by split <;> simp <;> omega, ?_⟩
  rw [← h3]
  have e : gRest l (i + 1) = (if 0 < (l.drop (i + 1)).length ∧ (l.drop (i + 1)).length % 3 = 0 then [44] else []) ++ groupG (l.drop (i + 1)) := by
    unfold gRest commaAt
    congr 1
    rw [List.length_drop]
    by_cases h1 : i + 1 < l.length
    · by_cases h2 : (l.length - (i + 1)) % 3 = 0
      · rw [if_pos ⟨h1, by simp [h2]⟩, if_pos ⟨by omega, h2⟩]
      · rw [if_neg (by simp [h2]), if_neg (by omega)]
    · rw [if_neg (by omega), if_neg (by omega)]
  have e2 : gRest l i = (if commaAt l.length i = true then [44] else []) ++ (l[i] :: gRest l (i + 1)) := by
    rw [e]
    conv => lhs; unfold gRest
    rw [List.drop_eq_getElem_cons hi]
    simp only [hi, true_and, groupG]
  rw [e2]
  split <;> simp
theorem GInv.done {l acc : Bs} {i : Nat} (h : GInv l acc i) (hi : ¬ i < l.length) : acc = groupG l := by
  rw [← h.2.2]
  unfold gRest
  rw [if_neg (by omega), List.drop_of_length_le (by omega)]
  simp [groupG]
theorem rb {m e : Int} (h : pRight m e = true) : -1000000000000000 < m ∧ m < 1000000000000000 := by
  by_cases hz : m = 0
  · omega
  · have := pRight_of h hz
    omega
/-- what places show of a right number that isn't below 0 -/
def pPlaces (p : MP) (m e : Int) : Bs :=
  let t := nText (nRound m e p.most).1 (nRound m e p.most).2
  let c := Lib.cut t [46]
  let w0 := if c.1 = [48] then [] else c.1
  let w1 := List.replicate (p.whole - w0.length) 48 ++ w0
  let w2 := if p.comma then groupG w1 else w1
  if p.point then w2 ++ [46] ++ c.2.1 ++ List.replicate (p.least - c.2.1.length) 48 else w2
def partText (p : MP) (m e : Int) : Bs := if p.kind = 3 then nText m e else if p.kind = 4 then pPlaces p m e else p.text
def oneNine (l : Bs) : Bool := l.any fun c => decide (49 ≤ c.toNat) && decide (c.toNat ≤ 57)
def partSome (p : MP) (m e : Int) : Bool := (decide (p.kind = 3) || decide (p.kind = 4)) && oneNine (partText p m e)
/-- times hundred, so often -/
def hundred : Nat → Int × Int → Option (Int × Int)
  | 0, x => some x
  | k + 1, x => (pNear (decide (x.1 < 0)) x.1.natAbs (x.2 + 2)).bind (hundred k)
def secOf (L : List MS) (m : Int) : MS :=
  if L.length = 0 then ⟨[{ mp0 with kind := 3 }], 0, false⟩
  else if m < 0 ∧ 2 ≤ L.length then L.getD 1 ms0
  else if m = 0 ∧ 3 ≤ L.length then L.getD 2 ms0
  else L.getD 0 ms0
def numText : Bs := [35, 78, 85, 77, 33]
def mNumber (L : List MS) (m e : Int) : Bs :=
  match hundred (secOf L m).percents (m.natAbs, e) with
  | none => numText
  | some x =>
    let b := (secOf L m).parts.flatMap fun p => partText p x.1 x.2
    if m < 0 ∧ L.length < 2 ∧ ((secOf L m).parts.any fun p => partSome p x.1 x.2) = true then 45 :: b else b
/-- what a format shows of a text -/
def pInsert (L : List MS) (t : Bs) : Bs := if L.length = 4 then (L.getD 3 ms0).parts.flatMap fun p => (if p.kind = 2 then t else []) ++ p.text else t
theorem nText_short (m e : Int) (hR : pRight m e = true) : (nText m e).length ≤ 255 := by
  rcases Nat.lt_or_ge 255 (nText m e).length with hl | hl
  · have hp := parse_text _ _ hR
    unfold pParse at hp
    rw [if_pos hl] at hp
    cases hp
  · exact hl
theorem nRound_right (m e : Int) (k : Nat) (hR : pRight m e = true) : pRight (nRound m e k).1 (nRound m e k).2 = true := by
  unfold nRound
  split
  · exact hR
  · split
    · decide
    · dsimp only
      generalize pTrim (m.natAbs / 10 ^ (-(k : Int) - e).toNat + if 10 ^ (-(k : Int) - e).toNat ≤ m.natAbs % 10 ^ (-(k : Int) - e).toNat * 2 then 1 else 0) (-(k : Int)) = t
      by_cases h : pRight (sg (decide (m < 0)) t.1) t.2 = true
      · rw [if_pos h]; exact h
      · rw [if_neg h]; exact hR
theorem cut_short (l sep : Bs) : (Lib.cut l sep).1.length ≤ l.length ∧ (Lib.cut l sep).2.1.length ≤ l.length := by
  unfold Lib.cut
  split <;> simp <;> omega
theorem groupG_len : ∀ l : Bs, (groupG l).length ≤ 2 * l.length
  | [] => Nat.le_refl _
  | c :: t => by
    have := groupG_len t
    unfold groupG
    rw [List.length_cons, List.length_append, List.length_cons]
    split <;> simp <;> omega
def HInv (l : Bs) (i : Nat) (c : Bool) : Prop := i ≤ l.length ∧ hashN false l = (i + (hashN (decide (0 < i)) (l.drop i)).1, c || (hashN (decide (0 < i)) (l.drop i)).2)
theorem HInv.start (l : Bs) : HInv l 0 false := ⟨Nat.zero_le _, by simp⟩
theorem at_get {l : Bs} {i : Nat} {c : UInt8} (h : atIs l i c = true) (hi : i < l.length) : l[i] = c := by
  unfold atIs at h
  rw [List.getElem?_eq_getElem hi] at h
  simpa using h
theorem at_not {l : Bs} {i : Nat} {c : UInt8} (h : atIs l i c = false) (hi : i < l.length) : l[i] ≠ c := by
  intro e
  unfold atIs at h
  rw [List.getElem?_eq_getElem hi, e] at h
  simp at h
theorem at_excl {l : Bs} {i : Nat} {a b : UInt8} (h : atIs l i a = true) (hab : a ≠ b) : atIs l i b = false := by
  unfold atIs at h ⊢
  rw [beq_iff_eq] at h
  rw [h, beq_eq_false_iff_ne]
  intro e
  exact hab (Option.some.inj e)
theorem HInv.hash {l : Bs} {i : Nat} {c : Bool} (h : HInv l i c) (hi : i < l.length) (ha : atIs l i 35 = true) : HInv l (i + 1) c := by
  refine ⟨hi, ?_⟩
  rw [h.2, List.drop_eq_getElem_cons hi, at_get ha hi]
  simp [hashN]
  omega
theorem HInv.comma {l : Bs} {i : Nat} {c : Bool} (h : HInv l i c) (hi : i < l.length) (h0 : 0 < i) (ha : atIs l i 44 = true) : HInv l (i + 1) true := by
  refine ⟨hi, ?_⟩
  rw [h.2, List.drop_eq_getElem_cons hi, at_get ha hi]
  simp [hashN, h0]
  omega
theorem HInv.stop {l : Bs} {i : Nat} {c : Bool} (h : HInv l i c) (hs : i < l.length → atIs l i 35 = false ∧ (atIs l i 44 = false ∨ i = 0)) : hashN false l = (i, c) := by
  rw [h.2]
  rcases Nat.lt_or_ge i l.length with hi | hi
  · obtain ⟨h1, h2⟩ := hs hi
    rw [List.drop_eq_getElem_cons hi]
    have n1 := at_not h1 hi
    have n2 : ¬ (l[i] = 44 ∧ decide (0 < i) = true) := by
      rintro ⟨e1, e2⟩
      rcases h2 with h2 | h2
      · exact at_not h2 hi e1
      · subst h2; simp at e2
    simp only [hashN]
    rw [if_neg n1, if_neg n2]
    simp
  · rw [List.drop_of_length_le hi]
    simp [hashN]
def ZInv (l : Bs) (a i : Nat) (c : Bool) (n : Nat) : Prop := a ≤ i ∧ i ≤ l.length ∧ n ≤ i ∧ zeroN (decide (0 < a)) (l.drop a) = (i - a + (zeroN (decide (0 < i)) (l.drop i)).1, c || (zeroN (decide (0 < i)) (l.drop i)).2.1, n + (zeroN (decide (0 < i)) (l.drop i)).2.2)
theorem ZInv.start (l : Bs) (a : Nat) (h : a ≤ l.length) : ZInv l a a false 0 := ⟨Nat.le_refl _, h, Nat.zero_le _, by simp⟩
theorem ZInv.zero {l : Bs} {a i : Nat} {c : Bool} {n : Nat} (h : ZInv l a i c n) (hi : i < l.length) (ha : atIs l i 48 = true) : ZInv l a (i + 1) c (n + 1) := by
  obtain ⟨h1, h2, h3, h4⟩ := h
  refine ⟨by omega, hi, by omega, ?_⟩
  rw [h4, List.drop_eq_getElem_cons hi, at_get ha hi]
  simp [zeroN]
  omega
theorem ZInv.comma {l : Bs} {a i : Nat} {c : Bool} {n : Nat} (h : ZInv l a i c n) (hi : i < l.length) (h0 : 0 < i) (ha : atIs l i 44 = true) : ZInv l a (i + 1) true n := by
  obtain ⟨h1, h2, h3, h4⟩ := h
  refine ⟨by omega, hi, by omega, ?_⟩
  rw [h4, List.drop_eq_getElem_cons hi, at_get ha hi]
  simp [zeroN, h0]
  omega
theorem ZInv.stop {l : Bs} {a i : Nat} {c : Bool} {n : Nat} (h : ZInv l a i c n) (hs : i < l.length → atIs l i 48 = false ∧ (atIs l i 44 = false ∨ i = 0)) : zeroN (decide (0 < a)) (l.drop a) = (i - a, c, n) := by
  rw [h.2.2.2]
  rcases Nat.lt_or_ge i l.length with hi | hi
  · obtain ⟨h1, h2⟩ := hs hi
    rw [List.drop_eq_getElem_cons hi]
    have n1 := at_not h1 hi
    have n2 : ¬ (l[i] = 44 ∧ decide (0 < i) = true) := by
      rintro ⟨e1, e2⟩
      rcases h2 with h2 | h2
      · exact at_not h2 hi e1
      · subst h2; simp at e2
    simp only [zeroN]
    rw [if_neg n1, if_neg n2]
    simp
  · rw [List.drop_of_length_le hi]
    simp [zeroN]
/-- how far a run of one sign has come -/
def RInv (l : Bs) (d : UInt8) (a i : Nat) : Prop := a ≤ i ∧ i ≤ l.length ∧ runP (fun c => c == d) (l.drop a) = i - a + runP (fun c => c == d) (l.drop i)
theorem RInv.start (l : Bs) (d : UInt8) (a : Nat) (h : a ≤ l.length) : RInv l d a a := ⟨Nat.le_refl _, h, by simp⟩
theorem RInv.step {l : Bs} {d : UInt8} {a i : Nat} (h : RInv l d a i) (hi : i < l.length) (ha : atIs l i d = true) : RInv l d a (i + 1) := by
  obtain ⟨h1, h2, h3⟩ := h
  refine ⟨by omega, hi, ?_⟩
  rw [h3, List.drop_eq_getElem_cons hi, at_get ha hi]
  simp [runP]
  omega
theorem RInv.stop {l : Bs} {d : UInt8} {a i : Nat} (h : RInv l d a i) (hs : i < l.length → atIs l i d = false) : runP (fun c => c == d) (l.drop a) = i - a := by
  rw [h.2.2]
  rcases Nat.lt_or_ge i l.length with hi | hi
  · have := at_not (hs hi) hi
    rw [List.drop_eq_getElem_cons hi]
    simp [runP, this]
  · rw [List.drop_of_length_le hi]
    simp [runP]
theorem hashN_le : ∀ (nf : Bool) (l : Bs), (hashN nf l).1 ≤ l.length
  | _, [] => Nat.le_refl _
  | nf, c :: t => by
    have := hashN_le true t
    unfold hashN
    split
    · simp; omega
    · split <;> simp; omega
theorem zeroN_le : ∀ (nf : Bool) (l : Bs), (zeroN nf l).1 ≤ l.length ∧ (zeroN nf l).2.2 ≤ l.length
  | _, [] => ⟨Nat.le_refl _, Nat.le_refl _⟩
  | nf, c :: t => by
    have := zeroN_le true t
    unfold zeroN
    split
    · simp; omega
    · split <;> simp; omega
theorem pDigits_le (l : Bs) : (pDigits l).2.1 ≤ l.length ∧ (pDigits l).1.whole ≤ l.length ∧ (pDigits l).1.most ≤ l.length ∧ (pDigits l).1.least ≤ l.length ∧ ((pDigits l).1.kind = 4 ∨ (pDigits l).1 = mp0) := by
  have h1 := hashN_le false l
  have h2 := zeroN_le (decide (0 < (hashN false l).1)) (l.drop (hashN false l).1)
  rw [List.length_drop] at h2
  unfold pDigits
  dsimp only
  generalize (zeroN (decide (0 < (hashN false l).1)) (l.drop (hashN false l).1)) = b at *
  generalize (hashN false l) = a at *
  split
  · rename_i h46
    have hlt := at_lt _ _ _ h46
    have h3 := runP_le (fun c => c == 48) (l.drop (a.1 + b.1 + 1))
    rw [List.length_drop] at h3
    generalize runP (fun c => c == 48) (l.drop (a.1 + b.1 + 1)) = z at *
    have h4 := runP_le (fun c => c == 35) (l.drop (a.1 + b.1 + 1 + z))
    rw [List.length_drop] at h4
    generalize runP (fun c => c == 35) (l.drop (a.1 + b.1 + 1 + z)) = h at *
    split
    · exact ⟨Nat.zero_le _, Nat.zero_le _, Nat.zero_le _, Nat.zero_le _, .inr rfl⟩
    · refine ⟨?_, ?_, ?_, ?_, .inl rfl⟩ <;> dsimp only <;> omega
  · refine ⟨?_, ?_, ?_, ?_, .inl rfl⟩ <;> dsimp only <;> omega
theorem pDigits_pos (c : UInt8) (t : Bs) (hc : c = 35 ∨ c = 48 ∨ c = 46) : (pDigits (c :: t)).2.2 = 0 → 1 ≤ (pDigits (c :: t)).2.1 := by
  rcases hc with rfl | rfl | rfl
  · have : hashN false (35 :: t) = ((hashN true t).1 + 1, (hashN true t).2) := rfl
    unfold pDigits
    dsimp only
    rw [this]
    split
    · split
      · intro h; cases h
      · intro _; dsimp only; omega
    · intro _; dsimp only; omega
  · have e1 : hashN false (48 :: t) = (0, false) := rfl
    have e2 : zeroN false (48 :: t) = ((zeroN true t).1 + 1, (zeroN true t).2.1, (zeroN true t).2.2 + 1) := rfl
    unfold pDigits
    dsimp only
    rw [e1]
    dsimp only
    rw [List.drop_zero, show decide (0 < 0) = false from rfl, e2]
    split
    · split
      · intro h; cases h
      · intro _; dsimp only; omega
    · intro _; dsimp only; omega
  · have e1 : hashN false (46 :: t) = (0, false) := rfl
    have e2 : zeroN false (46 :: t) = (0, false, 0) := rfl
    unfold pDigits
    dsimp only
    rw [e1]
    dsimp only
    rw [List.drop_zero, show decide (0 < 0) = false from rfl, e2]
    dsimp only
    rw [if_pos (by simp [atIs])]
    split
    · intro h; cases h
    · intro _; dsimp only; omega
/-- the parts that may come -/
def MP.ok (p : MP) (n : Nat) : Prop := p.kind ≤ 4 ∧ p.whole ≤ n ∧ p.most ≤ n ∧ p.least ≤ n ∧ p.text.length ≤ n
theorem mp0_ok (n : Nat) : mp0.ok n := ⟨by decide, Nat.zero_le _, Nat.zero_le _, Nat.zero_le _, Nat.zero_le _⟩
theorem pDigits_text (l : Bs) : (pDigits l).1.text = [] ∧ (pDigits l).1.kind ≤ 4 := by
  unfold pDigits
  dsimp only
  split
  · split
    · exact ⟨rfl, Nat.zero_le _⟩
    · exact ⟨rfl, Nat.le_refl 4⟩
  · exact ⟨rfl, Nat.le_refl 4⟩
theorem pNext_ok (c : UInt8) (t : Bs) : (pNext (c :: t)).1.ok (t.length + 1) ∧ ((pNext (c :: t)).2.2 = 0 → 1 ≤ (pNext (c :: t)).2.1 ∧ (pNext (c :: t)).2.1 ≤ t.length + 1) := by
  have hd := pDigits_le (c :: t)
  have hdt := pDigits_text (c :: t)
  rw [List.length_cons] at hd
  show (pNextC c t).1.ok (t.length + 1) ∧ ((pNextC c t).2.2 = 0 → 1 ≤ (pNextC c t).2.1 ∧ (pNextC c t).2.1 ≤ t.length + 1)
  unfold pNextC
  split
  · split
    · rename_i h
      obtain ⟨n, hn, hl, -, -⟩ := idx_yes t 34 h
      rw [hn]
      refine ⟨⟨Nat.zero_le _, Nat.zero_le _, Nat.zero_le _, Nat.zero_le _, ?_⟩, fun _ => ?_⟩
      · show (t.take (n : Int).toNat).length ≤ _
        rw [List.length_take]; omega
      · show 1 ≤ (n : Int).toNat + 2 ∧ (n : Int).toNat + 2 ≤ t.length + 1
        omega
    · exact ⟨mp0_ok _, fun h => by cases h⟩
  · split
    · split
      · exact ⟨mp0_ok _, fun h => by cases h⟩
      · rename_i h
        have : 0 < t.length := List.length_pos_iff.2 h
        exact ⟨⟨Nat.zero_le _, Nat.zero_le _, Nat.zero_le _, Nat.zero_le _, by show (t.take 1).length ≤ _; rw [List.length_take]; omega⟩, fun _ => by show 1 ≤ 2 ∧ 2 ≤ t.length + 1; omega⟩
    · split
      · exact ⟨⟨Nat.zero_le _, Nat.zero_le _, Nat.zero_le _, Nat.zero_le _, by show [c].length ≤ _; simp⟩, fun _ => by show 1 ≤ 1 ∧ 1 ≤ t.length + 1; omega⟩
      · split
        · exact ⟨⟨by decide, Nat.zero_le _, Nat.zero_le _, Nat.zero_le _, by show [(37 : UInt8)].length ≤ _; simp⟩, fun _ => by show 1 ≤ 1 ∧ 1 ≤ t.length + 1; omega⟩
        · split
          · exact ⟨⟨by decide, Nat.zero_le _, Nat.zero_le _, Nat.zero_le _, Nat.zero_le _⟩, fun _ => by show 1 ≤ 1 ∧ 1 ≤ t.length + 1; omega⟩
          · split
            · rename_i h
              exact ⟨⟨hdt.2, hd.2.1, hd.2.2.1, hd.2.2.2.1, by rw [hdt.1]; exact Nat.zero_le _⟩, fun e => ⟨pDigits_pos c t h e, hd.1⟩⟩
            · split
              · rename_i h
                have h7 : 7 ≤ t.length + 1 := by
                  unfold isGen at h
                  simp at h
                  have := h.1.1
                  omega
                exact ⟨⟨by decide, Nat.zero_le _, Nat.zero_le _, Nat.zero_le _, Nat.zero_le _⟩, fun _ => by show 1 ≤ 7 ∧ 7 ≤ t.length + 1; omega⟩
              · exact ⟨mp0_ok _, fun h => by cases h⟩
theorem mGo_fuel : ∀ (f g : Nat) (l : Bs) (a : Nat) (done : List MS) (cur : MS), l.length ≤ f → l.length ≤ g → mGo f l a done cur = mGo g l a done cur
  | f, g, [], a, done, cur, _, _ => by cases f <;> cases g <;> rfl
  | 0, _, c :: t, _, _, _, h, _ => by simp at h
  | _ + 1, 0, c :: t, _, _, _, _, h => by simp at h
  | f + 1, g + 1, c :: t, a, done, cur, h1, h2 => by
    rw [List.length_cons] at h1 h2
    have hok := (pNext_ok c t).2
    unfold mGo
    split
    · split
      · rfl
      · exact mGo_fuel f g t _ _ _ (by omega) (by omega)
    · split
      · rfl
      · split
        · rfl
        · rename_i h0
          have h0' : (pNext (c :: t)).2.2 = 0 := by
            rcases Classical.em ((pNext (c :: t)).2.2 = 0) with e | e
            · exact e
            · exact absurd e h0
          have hk := hok h0'
          cases pAdd cur (pNext (c :: t)).1 (decide (done.length = 3)) with
          | none => rfl
          | some x => exact mGo_fuel f g _ _ _ _ (by rw [List.length_drop, List.length_cons]; omega) (by rw [List.length_drop, List.length_cons]; omega)
def mFrom (l : Bs) (a : Nat) (done : List MS) (cur : MS) : List MS ⊕ (Nat × Int) := mGo l.length l a done cur
theorem mFrom_nil (a : Nat) (done : List MS) (cur : MS) : mFrom [] a done cur = .inl (done ++ [cur]) := rfl
theorem mFrom_semi (t : Bs) (a : Nat) (done : List MS) (cur : MS) : mFrom (59 :: t) a done cur = if done.length = 3 then .inr (a, 10) else mFrom t (a + 1) (done ++ [cur]) ms0 := by
  unfold mFrom
  rw [List.length_cons, mGo, if_pos rfl]
theorem mFrom_step (c : UInt8) (t : Bs) (a : Nat) (done : List MS) (cur : MS) (hc : c ≠ 59) : mFrom (c :: t) a done cur =
    if (pNext (c :: t)).2.2 = 13 then .inr (a + (c :: t).length, 13) else if (pNext (c :: t)).2.2 ≠ 0 then .inr (a, 6) else
      match pAdd cur (pNext (c :: t)).1 (decide (done.length = 3)) with
      | none => .inr (a, 6)
      | some x => mFrom ((c :: t).drop (pNext (c :: t)).2.1) (a + (pNext (c :: t)).2.1) done x := by
  have hok := (pNext_ok c t).2
  unfold mFrom
  rw [List.length_cons, mGo, if_neg hc]
  split
  · rfl
  · split
    · rfl
    · rename_i h0
      have h0' : (pNext (c :: t)).2.2 = 0 := by
        rcases Classical.em ((pNext (c :: t)).2.2 = 0) with e | e
        · exact e
        · exact absurd e h0
      have hk := hok h0'
      cases pAdd cur (pNext (c :: t)).1 (decide (done.length = 3)) with
      | none => rfl
      | some x => exact mGo_fuel _ _ _ _ _ _ (by rw [List.length_drop, List.length_cons]; omega) (Nat.le_refl _)
/-- how far Parse has come -/
def MInv (l : Bs) (a : Nat) (done : List MS) (cur : MS) : Prop := a ≤ l.length ∧ done.length ≤ 3 ∧ cur.parts.length ≤ a ∧ cur.percents ≤ a ∧ mFrom l 0 [] ms0 = mFrom (l.drop a) a done cur
theorem MInv.start (l : Bs) : MInv l 0 [] ms0 := ⟨Nat.zero_le _, by decide, Nat.zero_le _, Nat.zero_le _, rfl⟩
theorem MInv.full {l : Bs} {a : Nat} {done : List MS} {cur : MS} (h : MInv l a done cur) (hlt : a < l.length) (hc : atIs l a 59 = true) (h3 : done.length = 3) : mFrom l 0 [] ms0 = .inr (a, 10) := by
  rw [h.2.2.2.2, List.drop_eq_getElem_cons hlt, at_get hc hlt, mFrom_semi, if_pos h3]
theorem MInv.semi {l : Bs} {a : Nat} {done : List MS} {cur : MS} (h : MInv l a done cur) (hlt : a < l.length) (hc : atIs l a 59 = true) (h3 : done.length ≠ 3) : MInv l (a + 1) (done ++ [cur]) ms0 := by
  refine ⟨hlt, by have := h.2.1; simp; omega, Nat.zero_le _, Nat.zero_le _, ?_⟩
  rw [h.2.2.2.2, List.drop_eq_getElem_cons hlt, at_get hc hlt, mFrom_semi, if_neg h3]
theorem MInv.step {l : Bs} {a : Nat} {done : List MS} {cur : MS} (h : MInv l a done cur) (hlt : a < l.length) (hc : atIs l a 59 = false) : mFrom l 0 [] ms0 =
    if (pNext (l.drop a)).2.2 = 13 then .inr (l.length, 13) else if (pNext (l.drop a)).2.2 ≠ 0 then .inr (a, 6) else
      match pAdd cur (pNext (l.drop a)).1 (decide (done.length = 3)) with
      | none => .inr (a, 6)
      | some x => mFrom (l.drop (a + (pNext (l.drop a)).2.1)) (a + (pNext (l.drop a)).2.1) done x := by
  have e := List.drop_eq_getElem_cons hlt
  rw [h.2.2.2.2]
  have hs := mFrom_step l[a] (l.drop (a + 1)) a done cur (at_not hc hlt)
  rw [← e] at hs
  rw [hs, List.length_drop, show a + (l.length - a) = l.length by omega]
  simp only [List.drop_drop]
theorem pAdd_bd {cur x : MS} {p : MP} {b : Bool} (h : pAdd cur p b = some x) : x.parts.length = cur.parts.length + 1 ∧ x.percents ≤ cur.percents + 1 := by
  unfold pAdd at h
  split at h
  · split at h
    · injection h with h; subst h; exact ⟨by simp, Nat.le_succ _⟩
    · cases h
  · split at h
    · split at h
      · cases h
      · injection h with h; subst h; exact ⟨by simp, Nat.le_refl _⟩
    · split at h
      · split at h
        · cases h
        · injection h with h; subst h; exact ⟨by simp, Nat.le_succ _⟩
      · injection h with h; subst h; exact ⟨by simp, Nat.le_succ _⟩
theorem MInv.add {l : Bs} {a : Nat} {done : List MS} {cur x : MS} (h : MInv l a done cur) (hlt : a < l.length) (hc : atIs l a 59 = false) (h0 : (pNext (l.drop a)).2.2 = 0) (hp : pAdd cur (pNext (l.drop a)).1 (decide (done.length = 3)) = some x) : MInv l (a + (pNext (l.drop a)).2.1) done x := by
  have e := List.drop_eq_getElem_cons hlt
  have hok := (pNext_ok l[a] (l.drop (a + 1))).2
  rw [← e] at hok
  obtain ⟨k1, k2⟩ := hok h0
  rw [List.length_drop] at k2
  obtain ⟨b1, b2⟩ := pAdd_bd hp
  have hs := h.step hlt hc
  rw [h0, if_neg (by decide), if_neg (by decide), hp] at hs
  refine ⟨by omega, h.2.1, by have := h.2.2.1; omega, by have := h.2.2.2.1; omega, hs⟩
theorem MInv.done {l : Bs} {a : Nat} {done : List MS} {cur : MS} (h : MInv l a done cur) (hlt : ¬ a < l.length) : mFrom l 0 [] ms0 = .inl (done ++ [cur]) := by
  rw [h.2.2.2.2, List.drop_of_length_le (by omega)]
  rfl
theorem mParse_eq (l : Bs) : mParse l = if 255 < l.length then .inr (0, 14) else mFrom l 0 [] ms0 := rfl
theorem pNear_right {neg : Bool} {n : Nat} {e : Int} {q : Int × Int} (h : pNear neg n e = some q) : pRight q.1 q.2 = true ∧ (neg = false → 0 ≤ q.1) := by
  rw [pNear_is neg n e (near1 n e).1 (near2 (near1 n e).1 (near1 n e).2).1 (near1 n e).2 (near2 (near1 n e).1 (near1 n e).2).2 rfl rfl] at h
  split at h
  · rename_i hR
    injection h with h
    subst h
    refine ⟨hR, fun hn => ?_⟩
    subst hn
    exact Int.natCast_nonneg _
  · cases h
theorem sgn_cases (m : Int) : (m < 0 ∧ sgn m = -1) ∨ (m = 0 ∧ sgn m = 0) ∨ (0 < m ∧ sgn m = 1) := by
  unfold sgn
  rcases (by omega : m < 0 ∨ m = 0 ∨ 0 < m) with h | h | h
  · exact .inl ⟨h, if_pos h⟩
  · subst h; exact .inr (.inl ⟨rfl, rfl⟩)
  · exact .inr (.inr ⟨h, by rw [if_neg (by omega), if_pos h]⟩)
theorem pCmp_zero (m e : Int) (hR : pRight m e = true) : pCmp m e 0 0 = sgn m := by
  unfold pCmp
  rw [if_pos ⟨hR, by decide⟩]
  rcases sgn_cases m with ⟨_, h⟩ | ⟨_, h⟩ | ⟨_, h⟩ <;> rw [h]
  · rw [if_neg (by decide)]; decide
  · rw [if_pos (by decide)]; simp
  · rw [if_neg (by decide)]; decide
theorem secOf_sgn (L : List MS) (m : Int) : secOf L (sgn m) = secOf L m := by
  unfold secOf
  rcases sgn_cases m with ⟨a, h⟩ | ⟨a, h⟩ | ⟨a, h⟩ <;> rw [h]
  · have h2 : ¬ m = 0 := by omega
    simp [a, h2]
  · subst a; rfl
  · have h1 : ¬ m < 0 := by omega
    have h2 : ¬ m = 0 := by omega
    simp [h1, h2]
def nines : Bs := [49, 50, 51, 52, 53, 54, 55, 56, 57]
theorem nines_iff (c : UInt8) : nines.contains c = (decide (49 ≤ c.toNat) && decide (c.toNat ≤ 57)) := by
  have : ∀ n : Fin 256, nines.contains (UInt8.ofNat n.val) = (decide (49 ≤ (UInt8.ofNat n.val).toNat) && decide ((UInt8.ofNat n.val).toNat ≤ 57)) := by decide +kernel
  have h := this ⟨c.toNat, c.toNat_lt⟩
  simpa using h
theorem any_nines : ∀ l : Bs, Lib.containsAny l nines = oneNine l
  | [] => rfl
  | c :: t => by
    have ih := any_nines t
    have hge := Lib.indexAny_ge nines t
    have e : oneNine (c :: t) = (nines.contains c || oneNine t) := by rw [nines_iff]; rfl
    rw [e, ← ih]
    unfold Lib.containsAny
    conv => lhs; unfold Lib.indexAny
    cases hc : nines.contains c
    · simp only [Bool.false_eq_true, if_false, Bool.false_or]
      by_cases h1 : Lib.indexAny t nines = -1
      · rw [if_pos (by simp [h1]), h1]
      · have h2 : (Lib.indexAny t nines == -1) = false := by rw [beq_eq_false_iff_ne]; exact h1
        rw [h2]
        simp only [Bool.false_eq_true, if_false]
        rw [decide_eq_decide]
        omega
    · simp
def Ascii (l : Bs) : Prop := ∀ c ∈ l, c.toNat < 128
theorem Ascii.app {a b : Bs} (ha : Ascii a) (hb : Ascii b) : Ascii (a ++ b) := fun c hc => (List.mem_append.1 hc).elim (ha c) (hb c)
theorem Ascii.dig {a : Bs} (h : AllDig a) : Ascii a := fun c hc => by have := (isDigit_iff c).1 (h c hc); omega
theorem Ascii.zeros (n : Nat) : Ascii (List.replicate n 48) := Ascii.dig (AllDig.zeros n)
theorem Ascii.take {a : Bs} (h : Ascii a) (n : Nat) : Ascii (a.take n) := fun c hc => h c (List.mem_of_mem_take hc)
theorem Ascii.drop {a : Bs} (h : Ascii a) (n : Nat) : Ascii (a.drop n) := fun c hc => h c (List.mem_of_mem_drop hc)
theorem nText_ascii (m e : Int) : Ascii (nText m e) := by
  have hd := Ascii.dig (dec_dig m.natAbs).1
  have hs : Ascii (if m < 0 then [45] else []) := by
    split
    · intro c hc; rw [List.mem_singleton.1 hc]; decide
    · intro c hc; cases hc
  unfold nText
  dsimp only
  split
  · exact (hs.app hd).app (Ascii.zeros _)
  · split
    · exact ((hs.app (hd.take _)).app (fun c hc => by rw [List.mem_singleton.1 hc]; decide)).app (hd.drop _)
    · exact ((hs.app (fun c hc => by simp at hc; rcases hc with rfl | rfl <;> decide)).app (Ascii.zeros _)).app hd
theorem groupG_ascii : ∀ l : Bs, Ascii l → Ascii (groupG l)
  | [], h => h
  | c :: t, h => by
    have ih := groupG_ascii t (fun x hx => h x (List.mem_cons_of_mem _ hx))
    unfold groupG
    intro x hx
    rcases List.mem_cons.1 hx with rfl | hx
    · exact h _ (List.mem_cons_self ..)
    · rcases List.mem_append.1 hx with hx | hx
      · split at hx
        · rw [List.mem_singleton.1 hx]; decide
        · cases hx
      · exact ih x hx
theorem cut_ascii {l : Bs} (h : Ascii l) (sep : Bs) : Ascii (Lib.cut l sep).1 ∧ Ascii (Lib.cut l sep).2.1 := by
  unfold Lib.cut
  split
  · exact ⟨h.take _, h.drop _⟩
  · exact ⟨h, fun c hc => by cases hc⟩
theorem pPlaces_ascii (p : MP) (m e : Int) : Ascii (pPlaces p m e) := by
  have hc := cut_ascii (nText_ascii (nRound m e p.most).1 (nRound m e p.most).2) [46]
  unfold pPlaces
  dsimp only
  generalize Lib.cut (nText (nRound m e p.most).1 (nRound m e p.most).2) [46] = c at *
  have h0 : Ascii (if c.1 = [48] then [] else c.1 : Bs) := by
    split
    · intro x hx; cases hx
    · exact hc.1
  have h1 := (Ascii.zeros (p.whole - (if c.1 = [48] then [] else c.1 : Bs).length)).app h0
  have h2 : Ascii (if p.comma = true then groupG (List.replicate (p.whole - (if c.1 = [48] then [] else c.1 : Bs).length) 48 ++ (if c.1 = [48] then [] else c.1 : Bs)) else List.replicate (p.whole - (if c.1 = [48] then [] else c.1 : Bs).length) 48 ++ (if c.1 = [48] then [] else c.1 : Bs)) := by
    split
    · exact groupG_ascii _ h1
    · exact h1
  split
  · exact ((h2.app (fun x hx => by rw [List.mem_singleton.1 hx]; decide)).app hc.2).app (Ascii.zeros _)
  · exact h2
theorem pPlaces_len (p : MP) (m e : Int) (hR : pRight m e = true) (n : Nat) (h1 : p.whole ≤ n) (h2 : p.least ≤ n) : (pPlaces p m e).length ≤ 4 * n + 2000 := by
  have hs := nText_short _ _ (nRound_right m e p.most hR)
  have hc := cut_short (nText (nRound m e p.most).1 (nRound m e p.most).2) [46]
  unfold pPlaces
  dsimp only
  generalize Lib.cut (nText (nRound m e p.most).1 (nRound m e p.most).2) [46] = c at *
  have h0 : (if c.1 = [48] then [] else c.1 : Bs).length ≤ 255 := by split; exact Nat.zero_le _; omega
  generalize (if c.1 = [48] then [] else c.1 : Bs) = w0 at *
  have hl : (List.replicate (p.whole - w0.length) 48 ++ w0 : Bs).length ≤ n + 255 := by rw [List.length_append, List.length_replicate]; omega
  generalize (List.replicate (p.whole - w0.length) 48 ++ w0 : Bs) = w1 at *
  have hg := groupG_len w1
  have h3 : (if p.comma = true then groupG w1 else w1 : Bs).length ≤ 2 * n + 510 := by split <;> omega
  split
  · simp only [List.length_append, List.length_replicate, List.length_cons, List.length_nil]
    omega
  · omega
/-- what a loop over a section's parts has gathered -/
def gath (P : List MP) (m e : Int) (j : Nat) : Bs := (P.take j).flatMap fun p => partText p m e
def someTo (P : List MP) (m e : Int) (j : Nat) : Bool := (P.take j).any fun p => partSome p m e
theorem gath_succ (P : List MP) (m e : Int) (j : Nat) (h : j < P.length) : gath P m e (j + 1) = gath P m e j ++ partText P[j] m e := by
  unfold gath
  rw [List.take_succ_eq_append_getElem h, List.flatMap_append]
  simp
theorem someTo_succ (P : List MP) (m e : Int) (j : Nat) (h : j < P.length) : someTo P m e (j + 1) = (someTo P m e j || partSome P[j] m e) := by
  unfold someTo
  rw [List.take_succ_eq_append_getElem h, List.any_append]
  simp
theorem gath_all (P : List MP) (m e : Int) (j : Nat) (h : P.length ≤ j) : gath P m e j = P.flatMap fun p => partText p m e := by
  unfold gath
  rw [List.take_of_length_le h]
theorem someTo_all (P : List MP) (m e : Int) (j : Nat) (h : P.length ≤ j) : someTo P m e j = P.any fun p => partSome p m e := by
  unfold someTo
  rw [List.take_of_length_le h]
theorem partText_len (p : MP) (m e : Int) (hR : pRight m e = true) (h : p.ok 255) : (partText p m e).length ≤ 4000 := by
  have h1 := nText_short m e hR
  have h2 := pPlaces_len p m e hR 255 h.2.1 h.2.2.2.1
  have h3 := h.2.2.2.2
  unfold partText
  split
  · omega
  · split <;> omega
theorem gath_len (P : List MP) (m e : Int) (hR : pRight m e = true) (h : ∀ p ∈ P, p.ok 255) : ∀ j, j ≤ P.length → (gath P m e j).length ≤ 4000 * j
  | 0, _ => by simp [gath]
  | j + 1, hj => by
    have ih := gath_len P m e hR h j (by omega)
    have := partText_len P[j] m e hR (h _ (List.getElem_mem _))
    rw [gath_succ P m e j (by omega), List.length_append]
    omega
/-- times hundred, step by step -/
theorem hundred_some (n i : Nat) (x y : Int × Int) (hi : i < n) (hy : pNear (decide (x.1 < 0)) x.1.natAbs (x.2 + 2) = some y) : hundred (n - i) x = hundred (n - (i + 1)) y := by
  rw [show n - i = n - (i + 1) + 1 by omega, hundred, hy]
  rfl
theorem hundred_none (n i : Nat) (x : Int × Int) (hi : i < n) (hy : pNear (decide (x.1 < 0)) x.1.natAbs (x.2 + 2) = none) : hundred (n - i) x = none := by
  rw [show n - i = n - (i + 1) + 1 by omega, hundred, hy]
  rfl
theorem pRight_abs (m e : Int) (h : pRight m e = true) : pRight (m.natAbs : Int) e = true := by
  unfold pRight at h ⊢
  simpa using h
def secA : MS := ⟨[⟨4, [], 1, true, true, 2, 2⟩], 0, true⟩
def secB0 : MS := ⟨[⟨4, [], 1, false, false, 0, 0⟩, ⟨1, [37], 0, false, false, 0, 0⟩], 1, true⟩
def secB1 : MS := ⟨[⟨0, [40], 0, false, false, 0, 0⟩, ⟨4, [], 1, false, false, 0, 0⟩, ⟨1, [37], 0, false, false, 0, 0⟩, ⟨0, [41], 0, false, false, 0, 0⟩], 1, true⟩
theorem parse_A : mParse [35, 44, 35, 35, 48, 46, 48, 48] = .inl [secA] := by rfl
theorem parse_B : mParse [48, 37, 59, 40, 48, 37, 41] = .inl [secB0, secB1] := by rfl
theorem show_A : mNumber [secA] 12345 (-1) = [49, 44, 50, 51, 52, 46, 53, 48] := by decide +kernel
theorem show_B : mNumber [secB0, secB1] (-125) (-3) = [40, 49, 51, 37, 41] := by decide +kernel
theorem groupG_count : ∀ l : Bs, (groupG l).length = l.length + (l.length - 1) / 3
  | [] => rfl
  | c :: t => by
    have ih := groupG_count t
    unfold groupG
    rw [List.length_cons, List.length_append, ih, List.length_cons]
    split
    · rw [List.length_cons, List.length_nil]; omega
    · rw [List.length_nil]; omega
theorem groupG_filter : ∀ l : Bs, (∀ c ∈ l, c ≠ 44) → (groupG l).filter (fun c => c != 44) = l
  | [], _ => rfl
  | c :: t, h => by
    have ih := groupG_filter t (fun x hx => h x (List.mem_cons_of_mem _ hx))
    have hc : (c != 44) = true := by simpa using h c (List.mem_cons_self ..)
    unfold groupG
    rw [List.filter_cons, if_pos hc, List.filter_append, ih]
    split <;> simp
/-- where a comma stands -/
def CommaOk (b : Bs) : Prop := ∀ i, b[i]? = some 44 → (b.length - i) % 4 = 0 ∧ 0 < i ∧ ∃ d, b[i - 1]? = some d ∧ isDigit d = true
theorem groupG_ok : ∀ l : Bs, AllDig l → CommaOk (groupG l)
  | [], _, i, h => by simp [groupG] at h
  | c :: t, hd, i, h => by
    have ih := groupG_ok t (fun x hx => hd x (List.mem_cons_of_mem _ hx))
    have hc := hd c (List.mem_cons_self ..)
    have hc44 : c ≠ 44 := fun e => by subst e; exact absurd hc (by decide)
    have hl := groupG_count t
    unfold groupG at h ⊢
    by_cases hs : 0 < t.length ∧ t.length % 3 = 0
    · rw [if_pos hs] at h ⊢
      match i, h with
      | 0, h => exact absurd (by simpa using h) hc44
      | 1, h => exact ⟨by simp only [List.length_cons, List.length_append, List.length_nil]; omega, by decide, c, rfl, hc⟩
      | i + 2, h =>
        have h' : (groupG t)[i]? = some 44 := by simpa using h
        obtain ⟨k1, k2, d, k3, k4⟩ := ih i h'
        refine ⟨?_, by omega, d, ?_, k4⟩
        · simp only [List.length_cons, List.length_append, List.length_nil]
          have hi : i < (groupG t).length := (List.getElem?_eq_some_iff.1 h').1
          omega
        · rw [show i + 2 - 1 = (i - 1) + 2 by omega]
          simpa using k3
    · rw [if_neg hs] at h ⊢
      match i, h with
      | 0, h => exact absurd (by simpa using h) hc44
      | i + 1, h =>
        have h' : (groupG t)[i]? = some 44 := by simpa using h
        obtain ⟨k1, k2, d, k3, k4⟩ := ih i h'
        refine ⟨?_, by omega, d, ?_, k4⟩
        · simp only [List.length_cons, List.nil_append]
          have hi : i < (groupG t).length := (List.getElem?_eq_some_iff.1 h').1
          omega
        · rw [show i + 1 - 1 = (i - 1) + 1 by omega]
          simpa using k3
theorem commaOk_sign {b : Bs} (h : CommaOk b) (neg : Bool) : CommaOk (sgB neg ++ b) := by
  cases neg
  · exact h
  · intro i hi
    match i, hi with
    | 0, hi => simp [sgB] at hi
    | i + 1, hi =>
      have h' : b[i]? = some 44 := by simpa [sgB] using hi
      obtain ⟨k1, k2, d, k3, k4⟩ := h i h'
      have hlt : i < b.length := (List.getElem?_eq_some_iff.1 h').1
      refine ⟨?_, by omega, d, ?_, k4⟩
      · simp only [sgB, if_true, List.length_append, List.length_cons, List.length_nil]; omega
      · rw [show i + 1 - 1 = (i - 1) + 1 by omega]
        simpa [sgB] using k3
theorem index_dot (c : UInt8) (t : Bs) : Lib.index (c :: t) [46] = if c = 46 then 0 else if Lib.index t [46] = -1 then -1 else Lib.index t [46] + 1 := by
  show (if ([46] : Bs).isPrefixOf (c :: t) = true then (0 : Int) else if (Lib.index t [46] == -1) = true then -1 else Lib.index t [46] + 1) = _
  by_cases hc : c = 46
  · subst hc; rfl
  · rw [if_neg hc, if_neg (by simp [List.isPrefixOf]; exact fun h => hc h.symm)]
    simp only [beq_iff_eq]
theorem cut_cons (c : UInt8) (t : Bs) : (Lib.cut (c :: t) [46]).1 = if c = 46 then [] else c :: (Lib.cut t [46]).1 := by
  have hge := Lib.index_ge t [46]
  unfold Lib.cut
  rw [index_dot]
  by_cases hc : c = 46
  · rw [if_pos hc, if_pos hc]; rfl
  · rw [if_neg hc, if_neg hc]
    by_cases h2 : Lib.index t [46] = -1
    · rw [if_pos h2, h2]; rfl
    · rw [if_neg h2, if_pos (by omega), if_pos (by omega)]
      show List.take (Lib.index t [46] + 1).toNat (c :: t) = _
      rw [show (Lib.index t [46] + 1).toNat = (Lib.index t [46]).toNat + 1 by omega]
      rfl
def NumC (l : Bs) : Prop := ∀ c ∈ l, isDigit c = true ∨ c = 46
theorem NumC.dig {l : Bs} (h : AllDig l) : NumC l := fun c hc => .inl (h c hc)
theorem NumC.app {a b : Bs} (h : NumC a) (k : NumC b) : NumC (a ++ b) := fun c hc => (List.mem_append.1 hc).elim (h c) (k c)
theorem NumC.dot : NumC [46] := fun _ hc => .inr (List.mem_singleton.1 hc)
theorem cut_dig : ∀ l : Bs, NumC l → AllDig (Lib.cut l [46]).1
  | [], _ => fun _ hc => by simp [Lib.cut, Lib.index] at hc
  | c :: t, h => by
    rw [cut_cons]
    split
    · exact fun _ hc => by simp at hc
    · next hne =>
      have ih := cut_dig t (fun x hx => h x (List.mem_cons_of_mem _ hx))
      intro x hx
      rcases List.mem_cons.1 hx with rfl | hx
      · exact (h x (List.mem_cons_self ..)).resolve_right hne
      · exact ih x hx
theorem nText_chars (m e : Int) (h0 : 0 ≤ m) : NumC (nText m e) ∧ ∃ c t, nText m e = c :: t ∧ isDigit c = true := by
  have hd := (dec_dig m.natAbs).1
  have hl : 1 ≤ (Lib.decDigits m.natAbs).length := by rw [Lib.decDigits_length, Lib.nDigits]; split <;> omega
  have hs : (if m < 0 then [45] else [] : Bs) = [] := if_neg (by omega)
  unfold nText
  dsimp only
  rw [hs]
  generalize Lib.decDigits m.natAbs = D at *
  obtain ⟨d, D', rfl⟩ : ∃ d D', D = d :: D' := by cases D with | nil => simp at hl | cons d D' => exact ⟨d, D', rfl⟩
  have hd0 := hd d (List.mem_cons_self ..)
  split
  · exact ⟨.app (.app (.dig (fun _ hc => by simp at hc)) (.dig hd)) (.dig (AllDig.zeros _)), d, _, rfl, hd0⟩
  · split
    · next h1 =>
      refine ⟨.app (.app (.app (.dig (fun _ hc => by simp at hc)) (.dig (hd.take _))) .dot) (.dig (hd.drop _)), ?_⟩
      obtain ⟨k, hk⟩ : ∃ k, ((d :: D').length + e : Int).toNat = k + 1 := ⟨((d :: D').length + e : Int).toNat - 1, by omega⟩
      rw [hk]
      exact ⟨d, _, rfl, hd0⟩
    · refine ⟨.app (.app (.app (.dig (fun _ hc => by simp at hc)) ?_) (.dig (AllDig.zeros _))) (.dig hd), 48, _, rfl, by decide⟩
      intro c hc
      simp only [List.mem_cons, List.not_mem_nil, or_false] at hc
      rcases hc with rfl | rfl
      · exact .inl (by decide)
      · exact .inr rfl
theorem nRound_pos (m e : Int) (k : Nat) (h : 0 ≤ m) : 0 ≤ (nRound m e k).1 := by
  unfold nRound
  split
  · exact h
  · split
    · exact Int.le_refl _
    · dsimp only
      rw [decide_eq_false (show ¬ m < 0 by omega)]
      generalize pTrim (m.natAbs / 10 ^ (-(k : Int) - e).toNat + if 10 ^ (-(k : Int) - e).toNat ≤ m.natAbs % 10 ^ (-(k : Int) - e).toNat * 2 then 1 else 0) (-(k : Int)) = t
      by_cases hr : pRight (sg false t.1) t.2 = true
      · rw [if_pos hr]; simp [sg]
      · rw [if_neg hr]; exact h
def part0 (g : Bool) : MP := ⟨4, [], 1, g, false, 0, 0⟩
def sec0 (g : Bool) : MS := ⟨[part0 g], 0, true⟩
theorem parse_0 : mParse [48] = .inl [sec0 false] := by rfl
theorem parse_g : mParse [35, 44, 35, 35, 48] = .inl [sec0 true] := by rfl
def whole0 (m e : Int) : Bs := (Lib.cut (nText (nRound m e 0).1 (nRound m e 0).2) [46]).1
theorem whole0_is (m e : Int) (h : 0 ≤ m) : AllDig (whole0 m e) ∧ whole0 m e ≠ [] := by
  have hc := nText_chars (nRound m e 0).1 (nRound m e 0).2 (nRound_pos m e 0 h)
  refine ⟨cut_dig _ hc.1, ?_⟩
  obtain ⟨_, c, t, ht, hd⟩ := hc
  unfold whole0
  rw [ht, cut_cons, if_neg (by rintro rfl; exact absurd hd (by decide))]
  simp
theorem places0 (g : Bool) (m e : Int) (h : 0 ≤ m) : pPlaces (part0 g) m e = if g = true then groupG (whole0 m e) else whole0 m e := by
  have h1 := (whole0_is m e h).2
  show pPlaces ⟨4, [], 1, g, false, 0, 0⟩ m e = _
  unfold pPlaces
  dsimp only
  rw [show (Lib.cut (nText (nRound m e 0).1 (nRound m e 0).2) [46]).1 = whole0 m e from rfl]
  generalize whole0 m e = T at *
  by_cases hr : T = [48]
  · subst hr; cases g <;> rfl
  · rw [if_neg hr]
    obtain ⟨c, r, rfl⟩ : ∃ c r, T = c :: r := by cases T with | nil => exact absurd rfl h1 | cons c r => exact ⟨c, r, rfl⟩
    have : 1 - (c :: r).length = 0 := by simp
    rw [this]
    cases g <;> rfl
theorem oneNine_group : ∀ l : Bs, oneNine (groupG l) = oneNine l
  | [] => rfl
  | c :: t => by
    have ih := oneNine_group t
    unfold oneNine at *
    unfold groupG
    rw [List.any_cons, List.any_append, ih, List.any_cons]
    split <;> simp
theorem number0 (g : Bool) (m e : Int) : mNumber [sec0 g] m e = sgB (decide (m < 0) && oneNine (whole0 m.natAbs e)) ++ (if g = true then groupG (whole0 m.natAbs e) else whole0 m.natAbs e) := by
  have hs : secOf [sec0 g] m = sec0 g := by
    unfold secOf
    rw [if_neg (by simp), if_neg (by simp), if_neg (by simp)]
    rfl
  have hp : partText (part0 g) m.natAbs e = if g = true then groupG (whole0 m.natAbs e) else whole0 m.natAbs e := by
    unfold partText
    rw [if_neg (by simp [part0]), if_pos (by rfl)]
    exact places0 g _ e (by omega)
  have ho : partSome (part0 g) m.natAbs e = oneNine (whole0 m.natAbs e) := by
    unfold partSome
    rw [hp]
    cases g
    · rfl
    · exact oneNine_group _
  unfold mNumber
  rw [hs]
  dsimp only [sec0, hundred]
  simp only [List.flatMap_cons, List.flatMap_nil, List.append_nil, List.any_cons, List.any_nil, Bool.or_false, hp, ho, List.length_singleton]
  generalize oneNine (whole0 m.natAbs e) = q
  by_cases h1 : m < 0 <;> cases q <;> simp [h1, sgB]
/-- what the law sees of the grouped text -/
theorem group_law (q : Bool) (T : Bs) (hT : AllDig T) : CommaOk (sgB q ++ groupG T) ∧ (sgB q ++ groupG T).filter (fun c => c != 44) = sgB q ++ T ∧ (sgB q ++ groupG T).length = (sgB q ++ T).length + (T.length - 1) / 3 := by
  refine ⟨commaOk_sign (groupG_ok T hT) q, ?_, ?_⟩
  · rw [List.filter_append, groupG_filter T (fun c hc e => by subst e; exact absurd (hT _ hc) (by decide))]
    cases q <;> rfl
  · rw [List.length_append, List.length_append, groupG_count]; omega
/-- the bytes ahead of place i that are no commas -/
def bare (b : Bs) (i : Nat) : Bs := (b.take i).filter fun c => c != 44
theorem bare_len (b : Bs) (i : Nat) : (bare b i).length ≤ b.length := by
  unfold bare
  have := List.length_filter_le (fun c : UInt8 => c != 44) (b.take i)
  rw [List.length_take] at this
  omega
theorem bare_step (b : Bs) (i : Nat) (h : i < b.length) : bare b (i + 1) = if atIs b i 44 = true then bare b i else bare b i ++ [b[i]] := by
  unfold bare atIs
  rw [List.take_add_one, List.filter_append, List.getElem?_eq_getElem h]
  by_cases hc : b[i] = 44
  · simp [hc]
  · simp [hc]
theorem bare_all (b : Bs) : bare b b.length = b.filter fun c => c != 44 := by unfold bare; rw [List.take_length]
end Go.Proofs.YteccjdclkcipbaaDoor
