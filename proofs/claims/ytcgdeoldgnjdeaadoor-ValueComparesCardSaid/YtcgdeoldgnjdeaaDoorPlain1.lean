/-
  Plain words: bytes, runs of bytes of a kind. Nothing of the program.
-/
import Derived.WalkKit
namespace Go.Proofs.YtcgdeoldgnjdeaaDoor
open Go.RowKit

abbrev Bs := List UInt8
def isDigit (c : UInt8) : Bool := decide (48 ≤ c.toNat) && decide (c.toNat ≤ 57)
def isLetter (c : UInt8) : Bool := (decide (97 ≤ c.toNat) && decide (c.toNat ≤ 122)) || (decide (65 ≤ c.toNat) && decide (c.toNat ≤ 90))
/-- how many bytes a text begins with that are of a kind -/
def runP (p : UInt8 → Bool) : Bs → Nat
  | [] => 0
  | c :: l => if p c then runP p l + 1 else 0
theorem runP_le (p : UInt8 → Bool) (l : Bs) : runP p l ≤ l.length := by
  induction l with
  | nil => simp [runP]
  | cons c l ih => simp only [runP, List.length_cons]; split <;> omega
theorem runP_lt (p : UInt8 → Bool) (l : Bs) (k : Nat) (hk : k < runP p l) (h : k < l.length) : p l[k] = true := by
  induction l generalizing k with
  | nil => simp at h
  | cons c l ih =>
    simp only [runP] at hk
    split at hk
    case isTrue hc =>
      cases k with
      | zero => simpa using hc
      | succ k => simpa using ih k (by omega) (by simpa using h)
    case isFalse => omega
theorem runP_stop (p : UInt8 → Bool) (l : Bs) (h : runP p l < l.length) : p l[runP p l] = false := by
  induction l with
  | nil => simp at h
  | cons c l ih =>
    by_cases hc : p c = true
    · have e : runP p (c :: l) = runP p l + 1 := by simp [runP, hc]
      simp only [e, List.getElem_cons_succ]
      exact ih (by rw [e] at h; simpa using h)
    · have e : runP p (c :: l) = 0 := by simp [runP, hc]
      simp only [e, List.getElem_cons_zero]
      simpa using hc
theorem runP_step (p : UInt8 → Bool) (l : Bs) (k : Nat) (hk : k ≤ runP p l) (h : k < l.length) (hp : p l[k] = true) : k + 1 ≤ runP p l := by
  rcases Nat.lt_or_ge k (runP p l) with h1 | h1
  · exact h1
  · have e : k = runP p l := by omega
    subst e
    rw [runP_stop p l h] at hp
    cases hp
theorem runP_eq (p : UInt8 → Bool) (l : Bs) (k : Nat) (hk : k ≤ runP p l) (h : k < l.length) (hp : p l[k] = false) : runP p l = k := by
  rcases Nat.lt_or_ge k (runP p l) with h1 | h1
  · rw [runP_lt p l k h1 h] at hp; cases hp
  · omega
theorem data_get (s : ByteArray) (k : Nat) (h : k < s.size) : s.data.toList[k]'(by simpa using h) = s[k] := by rw [Array.getElem_toList]; rfl
theorem data_len (s : ByteArray) : s.data.toList.length = s.size := by simp
theorem S_get (l : Bs) (a : Nat) (h : a < (ByteArray.mk l.toArray).size) : (ByteArray.mk l.toArray)[a] = l[a]'(by simpa [ByteArray.size] using h) := by
  exact List.getElem_toArray (xs := l) (i := a) (by simpa [ByteArray.size] using h)
theorem S_extract (l : Bs) (a b : Nat) : (ByteArray.mk l.toArray).extract a b = ⟨((l.drop a).take (b - a)).toArray⟩ := by
  apply ByteArray.ext
  simp [ByteArray.data_extract, List.extract_toArray, List.extract_eq_take_drop]
theorem take_drop_all (l : Bs) (a : Nat) : List.take (l.length - a) (List.drop a l) = List.drop a l := List.take_of_length_le (by simp)
attribute [go_sem] S_get S_extract take_drop_all
theorem some_get (l : Bs) (k : Nat) (h : k < l.length) : l[k]? = some l[k] := List.getElem?_eq_getElem h
theorem u8_eq {c d : UInt8} (h : c.toNat = d.toNat) : c = d := UInt8.toNat.inj h
/-- stands this byte at that place? -/
def atIs (l : Bs) (k : Nat) (c : UInt8) : Bool := l[k]? == some c
theorem at_beq (l : Bs) (k : Nat) (c : UInt8) (n : Int) (hn : (c.toNat : Int) = n) (h : k < l.length) : ((l[k].toNat : Int) == n) = atIs l k c := by
  subst hn
  unfold atIs
  rw [List.getElem?_eq_getElem h, Bool.eq_iff_iff, beq_iff_eq, beq_iff_eq]
  constructor
  · intro e; rw [u8_eq (c := l[k]) (d := c) (by omega)]
  · intro e; injection e with e; rw [e]
theorem at_bne (l : Bs) (k : Nat) (c : UInt8) (n : Int) (hn : (c.toNat : Int) = n) (h : k < l.length) : ((l[k].toNat : Int) != n) = !atIs l k c := by
  rw [← at_beq l k c n hn h]; rfl
theorem at_out (l : Bs) (k : Nat) (c : UInt8) (h : l.length ≤ k) : atIs l k c = false := by
  unfold atIs; rw [List.getElem?_eq_none h]; rfl
theorem at_lt (l : Bs) (k : Nat) (c : UInt8) (h : atIs l k c = true) : k < l.length := by
  rcases Nat.lt_or_ge k l.length with h1 | h1
  · exact h1
  · rw [at_out l k c h1] at h; cases h
theorem get_none (l : Bs) (k : Nat) (h : l.length ≤ k) : l[k]? = none := List.getElem?_eq_none h
theorem ret_bool {a b : Bool} (h : a = b) : Ending.returned (.bool a) = .returned (.bool b) := by rw [h]
theorem ret_int {k : IntKind} {a b : Int} (h : a = b) : Ending.returned (.int k a) = .returned (.int k b) := by rw [h]

end Go.Proofs.YtcgdeoldgnjdeaaDoor
