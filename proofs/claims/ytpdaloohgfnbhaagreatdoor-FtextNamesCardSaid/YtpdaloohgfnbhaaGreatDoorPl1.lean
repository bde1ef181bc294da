/-
  Plain texts, no program: bytes, digits, folding, rounding, the reader of a number's text (merged: Plain1, PlainS, PlainV, PlainD, PlainR, PlainU, PlainE, PlainP).
-/
import Derived.WalkKit
namespace Go.Proofs.YtpdaloohgfnbhaaGreatDoor
open Go.RowKit

abbrev Bs := List UInt8
def isDigit (c : UInt8) : Bool := decide (48 ≤ c.toNat) && decide (c.toNat ≤ 57)
def isLetter (c : UInt8) : Bool := (decide (97 ≤ c.toNat) && decide (c.toNat ≤ 122)) || (decide (65 ≤ c.toNat) && decide (c.toNat ≤ 90))
/-- how many bytes a text begins with that are of a kind -/
def runP (p : UInt8 → Bool) : Bs → Nat
  | [] => 0
  | c :: l => if p c then runP p l + 1 else 0
theorem runP_le (p : UInt8 → Bool) (l : Bs) : runP p l ≤ l.length := by
  induction l with
  | nil => simp [runP]
  | cons c l ih => simp only [runP, List.length_cons]; split <;> omega
theorem runP_lt (p : UInt8 → Bool) (l : Bs) (k : Nat) (hk : k < runP p l) (h : k < l.length) : p l[k] = true := by
  induction l generalizing k with
  | nil => simp at h
  | cons c l ih =>
    simp only [runP] at hk
    split at hk
    case isTrue hc =>
      cases k with
      | zero => simpa using hc
      | succ k => simpa using ih k (by omega) (by simpa using h)
    case isFalse => omega
theorem runP_stop (p : UInt8 → Bool) (l : Bs) (h : runP p l < l.length) : p l[runP p l] = false := by
  induction l with
  | nil => simp at h
  | cons c l ih =>
    by_cases hc : p c = true
    · have e : runP p (c :: l) = runP p l + 1 := by simp [runP, hc]
      simp only [e, List.getElem_cons_succ]
      exact ih (by rw [e] at h; simpa using h)
    · have e : runP p (c :: l) = 0 := by simp [runP, hc]
      simp only [e, List.getElem_cons_zero]
      simpa using hc
theorem runP_step (p : UInt8 → Bool) (l : Bs) (k : Nat) (hk : k ≤ runP p l) (h : k < l.length) (hp : p l[k] = true) : k + 1 ≤ runP p l := by
  rcases Nat.lt_or_ge k (runP p l) with h1 | h1
  · exact h1
  · have e : k = runP p l := by omega
    subst e
    rw [runP_stop p l h] at hp
    cases hp
theorem runP_eq (p : UInt8 → Bool) (l : Bs) (k : Nat) (hk : k ≤ runP p l) (h : k < l.length) (hp : p l[k] = false) : runP p l = k := by
  rcases Nat.lt_or_ge k (runP p l) with h1 | h1
  · rw [runP_lt p l k h1 h] at hp; cases hp
  · omega
theorem data_get (s : ByteArray) (k : Nat) (h : k < s.size) : s.data.toList[k]'(by simpa using h) = s[k] := by rw [Array.getElem_toList]; rfl
theorem data_len (s : ByteArray) : s.data.toList.length = s.size := by simp
theorem S_get (l : Bs) (a : Nat) (h : a < (ByteArray.mk l.toArray).size) : (ByteArray.mk l.toArray)[a] = l[a]'(by simpa [ByteArray.size] using h) := by
  exact List.getElem_toArray (xs := l) (i := a) (by simpa [ByteArray.size] using h)
theorem S_extract (l : Bs) (a b : Nat) : (ByteArray.mk l.toArray).extract a b = ⟨((l.drop a).take (b - a)).toArray⟩ := by
  apply ByteArray.ext
  simp [ByteArray.data_extract, List.extract_toArray, List.extract_eq_take_drop]
theorem take_drop_all (l : Bs) (a : Nat) : List.take (l.length - a) (List.drop a l) = List.drop a l := List.take_of_length_le (by simp)
attribute [go_sem] S_get S_extract take_drop_all
theorem some_get (l : Bs) (k : Nat) (h : k < l.length) : l[k]? = some l[k] := List.getElem?_eq_getElem h
theorem u8_eq {c d : UInt8} (h : c.toNat = d.toNat) : c = d := UInt8.toNat.inj h
/-- stands this byte at that place? -/
def atIs (l : Bs) (k : Nat) (c : UInt8) : Bool := l[k]? == some c
theorem at_beq (l : Bs) (k : Nat) (c : UInt8) (n : Int) (hn : (c.toNat : Int) = n) (h : k < l.length) : ((l[k].toNat : Int) == n) = atIs l k c := by
  subst hn
  unfold atIs
  rw [List.getElem?_eq_getElem h, Bool.eq_iff_iff, beq_iff_eq, beq_iff_eq]
  constructor
  · intro e; rw [u8_eq (c := l[k]) (d := c) (by omega)]
  · intro e; injection e with e; rw [e]
theorem at_bne (l : Bs) (k : Nat) (c : UInt8) (n : Int) (hn : (c.toNat : Int) = n) (h : k < l.length) : ((l[k].toNat : Int) != n) = !atIs l k c := by
  rw [← at_beq l k c n hn h]; rfl
theorem at_out (l : Bs) (k : Nat) (c : UInt8) (h : l.length ≤ k) : atIs l k c = false := by
  unfold atIs; rw [List.getElem?_eq_none h]; rfl
theorem at_lt (l : Bs) (k : Nat) (c : UInt8) (h : atIs l k c = true) : k < l.length := by
  rcases Nat.lt_or_ge k l.length with h1 | h1
  · exact h1
  · rw [at_out l k c h1] at h; cases h
theorem get_none (l : Bs) (k : Nat) (h : l.length ≤ k) : l[k]? = none := List.getElem?_eq_none h
theorem ret_bool {a b : Bool} (h : a = b) : Ending.returned (.bool a) = .returned (.bool b) := by rw [h]
theorem ret_int {k : IntKind} {a b : Int} (h : a = b) : Ending.returned (.int k a) = .returned (.int k b) := by rw [h]
theorem S_append (a b : Bs) : (ByteArray.mk a.toArray) ++ (ByteArray.mk b.toArray) = ⟨(a ++ b).toArray⟩ := by
  apply ByteArray.ext
  simp [ByteArray.data_append]
attribute [go_sem] S_append
theorem str_eq {a b : Bs} (h : a = b) : Value.string ⟨a.toArray⟩ = Value.string ⟨b.toArray⟩ := by rw [h]
def isLow (c : UInt8) : Bool := decide (97 ≤ c.toNat) && decide (c.toNat ≤ 122)
def up (c : UInt8) : UInt8 := if isLow c then c - 32 else c
def pFold (l : Bs) : Bs := l.map up
theorem isLow_iff (c : UInt8) : isLow c = true ↔ 97 ≤ c.toNat ∧ c.toNat ≤ 122 := by simp [isLow]
theorem up_low (c : UInt8) (h : isLow c = true) : (up c).toNat = c.toNat - 32 := by
  have h1 := (isLow_iff c).1 h
  unfold up
  rw [if_pos h, UInt8.toNat_sub_of_le]
  · rfl
  · rw [UInt8.le_iff_toNat_le]; show 32 ≤ c.toNat; omega
theorem up_other (c : UInt8) (h : isLow c = false) : up c = c := by unfold up; rw [h]; rfl
theorem pFold_len (l : Bs) : (pFold l).length = l.length := by simp [pFold]
theorem pFold_same (l : Bs) (h : ∀ c ∈ l, isLow c = false) : pFold l = l := by
  induction l with
  | nil => rfl
  | cons c l ih => simp only [pFold, List.map_cons]; rw [up_other c (h c (by simp))]; congr 1; exact ih fun d hd => h d (by simp [hd])
/-- folded as far as a place -/
def half (l : Bs) (k : Nat) : Bs := pFold (l.take k) ++ l.drop k
theorem half_len (l : Bs) (k : Nat) : (half l k).length = l.length := by simp [half, pFold]; omega
theorem half_get (l : Bs) (k : Nat) (h : k < l.length) (h' : k < (half l k).length) : (half l k)[k] = l[k] := by
  have e : (pFold (l.take k)).length = k := by rw [pFold_len, List.length_take]; omega
  have h2 : (half l k)[k]? = l[k]? := by
    unfold half
    rw [List.getElem?_append_right (by omega), e, Nat.sub_self, List.getElem?_drop, Nat.add_zero]
  rw [List.getElem?_eq_getElem h', List.getElem?_eq_getElem h] at h2
  injection h2
theorem half_set (l : Bs) (k : Nat) (h : k < l.length) : (half l k).set k (up l[k]) = half l (k + 1) := by
  have e : (pFold (l.take k)).length = k := by rw [pFold_len, List.length_take]; omega
  unfold half
  rw [List.set_append_right (h := by omega), e, Nat.sub_self, List.drop_eq_getElem_cons h, List.set_cons_zero, List.take_succ_eq_append_getElem h]
  unfold pFold
  rw [List.map_append, List.append_assoc]
  rfl
theorem half_same (l : Bs) (k : Nat) (h : k < l.length) (hu : up l[k] = l[k]) : half l k = half l (k + 1) := by
  have h' : k < (half l k).length := by rw [half_len]; exact h
  rw [← half_set l k h, hu, ← half_get l k h h']
  exact (List.set_getElem_self h').symm
theorem half_all (l : Bs) : half l l.length = pFold l := by simp [half]
/-- a row of bytes that may be written -/
def Row (w : World) (b : Nat) (m : Bs) : Prop := ∀ j (h : j < m.length), w.cell? ⟨b, j, none⟩ = some (.int .u8 (m[j].toNat : Int)) ∧ w.frozen? ⟨b, j, none⟩ = false
theorem Row.set {w : World} {b : Nat} {m : Bs} (h : Row w b m) (k : Nat) (c : UInt8) : Row (w.setCell ⟨b, k, none⟩ (.int .u8 (c.toNat : Int))) b (m.set k c) := by
  intro j hj
  rw [List.length_set] at hj
  obtain ⟨h1, h2⟩ := h j hj
  by_cases e : k = j
  · subst e
    refine ⟨?_, by simpa using h2⟩
    rw [World.cell?_setCell_same' _ _ _ (by rw [h1]; rfl)]
    simp
  · refine ⟨?_, by simpa using h2⟩
    rw [World.cell?_setCell_other _ _ _ _ (by intro e2; cases e2; exact e rfl), h1]
    rw [List.getElem_set_ne e]
/-- how many digits a number has -/
def nDig : Nat → Nat → Nat
  | 0, _ => 1
  | f + 1, n => if n < 10 then 1 else nDig f (n / 10) + 1
def digs (n : Nat) : Nat := nDig 20 n
theorem nDig_fuel : ∀ (f g n : Nat), n < 10 ^ (f + 1) → n < 10 ^ (g + 1) → nDig f n = nDig g n := by
  intro f
  induction f with
  | zero =>
    intro g n hf hg
    have : n < 10 := by simpa using hf
    cases g with
    | zero => rfl
    | succ g => simp [nDig, this]
  | succ f ih =>
    intro g n hf hg
    cases g with
    | zero =>
      have : n < 10 := by simpa using hg
      simp [nDig, this]
    | succ g =>
      simp only [nDig]
      split
      · rfl
      · rw [ih g (n / 10)]
        · rw [Nat.div_lt_iff_lt_mul (by decide)]; rw [Nat.pow_succ] at hf; exact hf
        · rw [Nat.div_lt_iff_lt_mul (by decide)]; rw [Nat.pow_succ] at hg; exact hg
theorem digs_small (n : Nat) (h : n < 10) : digs n = 1 := by unfold digs nDig; rw [if_pos h]
theorem digs_big (n : Nat) (h : ¬ n < 10) (hn : n < 18446744073709551616) : digs n = digs (n / 10) + 1 := by
  unfold digs
  rw [nDig, if_neg h, nDig_fuel 19 20 (n / 10)]
  · have : n / 10 < 1844674407370955162 := by omega
    exact Nat.lt_of_lt_of_le this (by decide)
  · have : n / 10 < 1844674407370955162 := by omega
    exact Nat.lt_of_lt_of_le this (by decide)
theorem digs_le (n : Nat) : 1 ≤ digs n ∧ digs n ≤ 21 := by
  have : ∀ f n, 1 ≤ nDig f n ∧ nDig f n ≤ f + 1 := by
    intro f
    induction f with
    | zero => intro n; simp [nDig]
    | succ f ih =>
      intro n
      simp only [nDig]
      split
      · omega
      · have := ih (n / 10); omega
  exact this 20 n
theorem nDig_lt : ∀ (f n : Nat), n < 10 ^ (f + 1) → n < 10 ^ nDig f n := by
  intro f
  induction f with
  | zero => intro n h; simpa [nDig] using h
  | succ f ih =>
    intro n h
    simp only [nDig]
    split
    · omega
    · have h1 : n / 10 < 10 ^ (f + 1) := by rw [Nat.div_lt_iff_lt_mul (by decide)]; rw [Nat.pow_succ] at h; exact h
      have := ih (n / 10) h1
      rw [Nat.pow_succ]
      omega
theorem nDig_ge : ∀ (f n : Nat), 0 < n → 10 ^ (nDig f n - 1) ≤ n := by
  intro f
  induction f with
  | zero => intro n h; simp [nDig]; omega
  | succ f ih =>
    intro n h
    simp only [nDig]
    split
    · simp; omega
    · have h1 := ih (n / 10) (by omega)
      have h2 : 1 ≤ nDig f (n / 10) := by
        cases f with
        | zero => simp [nDig]
        | succ f => simp only [nDig]; split <;> omega
      rw [show nDig f (n / 10) + 1 - 1 = (nDig f (n / 10) - 1) + 1 by omega, Nat.pow_succ]
      omega
theorem digs_lt (n : Nat) (h : n < 1000000000000000) : n < 10 ^ digs n := nDig_lt 20 n (Nat.lt_of_lt_of_le h (by decide))
theorem digs_ge (n : Nat) (h : 0 < n) : 10 ^ (digs n - 1) ≤ n := nDig_ge 20 n h
theorem digs_15 (n : Nat) (h : n < 1000000000000000) : digs n ≤ 15 := by
  rcases Nat.eq_zero_or_pos n with h0 | h0
  · rw [h0]; decide
  · have h1 := digs_ge n h0
    rcases Nat.lt_or_ge 15 (digs n) with h2 | h2
    · have h3 : 10 ^ 15 ≤ 10 ^ (digs n - 1) := Nat.pow_le_pow_right (by decide) (by omega)
      have : (10 : Nat) ^ 15 = 1000000000000000 := by decide
      omega
    · exact h2
def p10 (n : Nat) : Nat := 10 ^ n
/-- a number's digits, as many as there may be -/
def norm (n : Nat) : Nat := n * p10 (15 - digs n)
theorem norm_lt (n : Nat) (h : n < 1000000000000000) : norm n < 1000000000000000 := by
  have h1 := digs_lt n h
  have h2 := digs_15 n h
  unfold norm p10
  have h3 : n * 10 ^ (15 - digs n) < 10 ^ digs n * 10 ^ (15 - digs n) := Nat.mul_lt_mul_of_pos_right h1 (Nat.pow_pos (by decide))
  rw [← Nat.pow_add, show digs n + (15 - digs n) = 15 by omega] at h3
  exact h3
def cmpN (x y : Int) : Int := if x < y then -1 else if y < x then 1 else 0
/-- whether a number is right -/
def pRight (m e : Int) : Bool :=
  if m = 0 then decide (e = 0)
  else decide (m.natAbs < 1000000000000000) && decide (m.natAbs % 10 ≠ 0) && decide (-40 ≤ e) && decide (e < 40) && decide ((digs m.natAbs : Int) + e ≤ 40)
theorem pRight_of {m e : Int} (h : pRight m e = true) (h0 : m ≠ 0) : m.natAbs < 1000000000000000 ∧ m.natAbs % 10 ≠ 0 ∧ -40 ≤ e ∧ e < 40 ∧ (digs m.natAbs : Int) + e ≤ 40 := by
  unfold pRight at h
  rw [if_neg h0] at h
  simp only [Bool.and_eq_true, decide_eq_true_eq] at h
  exact ⟨h.1.1.1.1, h.1.1.1.2, h.1.1.2, h.1.2, h.2⟩
/-- two sizes held against each other -/
def pCmpSize (m1 e1 m2 e2 : Int) : Int :=
  if m1 = 0 then 0
  else if (digs m1.natAbs : Int) + e1 = (digs m2.natAbs : Int) + e2 then cmpN (norm m1.natAbs) (norm m2.natAbs)
  else cmpN ((digs m1.natAbs : Int) + e1) ((digs m2.natAbs : Int) + e2)
/-- the number that digits tell -/
def natOf (ds : List Nat) : Nat := ds.foldl (fun a d => 10 * a + d) 0
def Dig (ds : List Nat) : Prop := ∀ d ∈ ds, d ≤ 9
theorem natOf_fold (ds : List Nat) (a : Nat) : ds.foldl (fun a d => 10 * a + d) a = a * 10 ^ ds.length + natOf ds := by
  induction ds generalizing a with
  | nil => simp [natOf]
  | cons d ds ih =>
    simp only [List.foldl_cons, List.length_cons]
    rw [ih (10 * a + d)]
    have h : natOf (d :: ds) = (10 * 0 + d) * 10 ^ ds.length + natOf ds := by
      show List.foldl _ _ ds = _
      rw [ih]
    rw [h, Nat.pow_succ, Nat.add_mul]
    have e1 : a * (10 ^ ds.length * 10) = 10 * a * 10 ^ ds.length := by rw [Nat.mul_comm (10 ^ ds.length) 10, ← Nat.mul_assoc, Nat.mul_comm a 10]
    rw [e1]
    simp only [Nat.mul_zero, Nat.zero_add]
    omega
theorem natOf_nil : natOf [] = 0 := rfl
theorem natOf_cons (d : Nat) (ds : List Nat) : natOf (d :: ds) = d * 10 ^ ds.length + natOf ds := by
  show List.foldl _ _ ds = _
  rw [natOf_fold]
  simp
theorem natOf_append (a b : List Nat) : natOf (a ++ b) = natOf a * 10 ^ b.length + natOf b := by
  unfold natOf
  rw [List.foldl_append, natOf_fold]
  rfl
theorem natOf_snoc (a : List Nat) (d : Nat) : natOf (a ++ [d]) = 10 * natOf a + d := by
  rw [natOf_append, natOf_cons]; simp [natOf_nil]; omega
theorem Dig.tail {d : Nat} {ds : List Nat} (h : Dig (d :: ds)) : Dig ds := fun x hx => h x (List.mem_cons_of_mem _ hx)
theorem Dig.head {d : Nat} {ds : List Nat} (h : Dig (d :: ds)) : d ≤ 9 := h d (List.mem_cons_self ..)
theorem Dig.take {ds : List Nat} (h : Dig ds) (n : Nat) : Dig (ds.take n) := fun x hx => h x (List.mem_of_mem_take hx)
theorem Dig.drop {ds : List Nat} (h : Dig ds) (n : Nat) : Dig (ds.drop n) := fun x hx => h x (List.mem_of_mem_drop hx)
theorem Dig.append {a b : List Nat} (ha : Dig a) (hb : Dig b) : Dig (a ++ b) := fun x hx => by
  rcases List.mem_append.1 hx with h | h
  · exact ha x h
  · exact hb x h
theorem natOf_lt (ds : List Nat) (h : Dig ds) : natOf ds < 10 ^ ds.length := by
  induction ds with
  | nil => simp [natOf]
  | cons d ds ih =>
    rw [natOf_cons, List.length_cons, Nat.pow_succ]
    have h1 := ih h.tail
    have h2 := h.head
    have h3 : d * 10 ^ ds.length ≤ 9 * 10 ^ ds.length := Nat.mul_le_mul_right _ h2
    omega
theorem natOf_ge (d : Nat) (ds : List Nat) (h : d ≠ 0) : 10 ^ ds.length ≤ natOf (d :: ds) := by
  rw [natOf_cons]
  have : 1 * 10 ^ ds.length ≤ d * 10 ^ ds.length := Nat.mul_le_mul_right _ (by omega)
  omega
theorem natOf_zeros (n : Nat) : natOf (List.replicate n 0) = 0 := by
  induction n with
  | zero => rfl
  | succ n ih => rw [List.replicate_succ, natOf_cons, ih]; simp
theorem natOf_nines (n : Nat) : natOf (List.replicate n 9) + 1 = 10 ^ n := by
  induction n with
  | zero => rfl
  | succ n ih => rw [List.replicate_succ, natOf_cons, Nat.pow_succ, List.length_replicate]; omega
/-- digits without noughts ahead -/
def bareL : List Nat → List Nat
  | [] => []
  | 0 :: l => bareL l
  | d :: l => d :: l
theorem bareL_nat (ds : List Nat) : natOf (bareL ds) = natOf ds := by
  induction ds with
  | nil => rfl
  | cons d ds ih =>
    cases d with
    | zero => rw [bareL, ih, natOf_cons]; simp
    | succ d => rfl
theorem bareL_head (ds : List Nat) (d : Nat) (l : List Nat) (h : bareL ds = d :: l) : d ≠ 0 := by
  induction ds with
  | nil => simp [bareL] at h
  | cons x ds ih =>
    cases x with
    | zero => rw [bareL] at h; exact ih h
    | succ x => simp [bareL] at h; omega
theorem bareL_drop (ds : List Nat) : ∃ k, k ≤ ds.length ∧ bareL ds = ds.drop k ∧ ds.take k = List.replicate k 0 := by
  induction ds with
  | nil => exact ⟨0, by simp [bareL]⟩
  | cons x ds ih =>
    cases x with
    | zero =>
      obtain ⟨k, hk, h1, h2⟩ := ih
      exact ⟨k + 1, by simp; omega, by simpa [bareL] using h1, by simp [List.replicate_succ, h2]⟩
    | succ x => exact ⟨0, by simp [bareL]⟩
theorem bareL_dig {ds : List Nat} (h : Dig ds) : Dig (bareL ds) := by
  obtain ⟨k, _, h1, _⟩ := bareL_drop ds
  rw [h1]; exact h.drop k
theorem bareL_len (ds : List Nat) : (bareL ds).length ≤ ds.length := by
  obtain ⟨k, _, h1, _⟩ := bareL_drop ds
  rw [h1, List.length_drop]; omega
theorem bareL_nil (ds : List Nat) : bareL ds = [] ↔ natOf ds = 0 := by
  constructor
  · intro h; rw [← bareL_nat, h]; rfl
  · intro h
    cases hb : bareL ds with
    | nil => rfl
    | cons d l =>
      have h1 := bareL_head _ _ _ hb
      have h2 := natOf_ge d l h1
      have h3 := bareL_nat ds
      rw [hb] at h3
      have : 0 < 10 ^ l.length := Nat.pow_pos (by decide)
      omega
/-- how many digits a number has, 0 has none -/
def dlenF : Nat → Nat → Nat
  | 0, _ => 0
  | f + 1, n => if n = 0 then 0 else dlenF f (n / 10) + 1
def dlen (n : Nat) : Nat := dlenF n n
theorem dlenF_bd : ∀ f n, n ≤ f → n < 10 ^ dlenF f n ∧ (0 < n → 0 < dlenF f n ∧ 10 ^ (dlenF f n - 1) ≤ n) := by
  intro f
  induction f with
  | zero => intro n h; simp [dlenF]; omega
  | succ f ih =>
    intro n h
    simp only [dlenF]
    split
    · rename_i h0; subst h0; simp
    · rename_i h0
      obtain ⟨h1, h2⟩ := ih (n / 10) (by omega)
      refine ⟨by rw [Nat.pow_succ]; omega, fun _ => ⟨by omega, ?_⟩⟩
      rcases Nat.eq_zero_or_pos (n / 10) with hz | hz
      · rw [hz]
        cases f with
        | zero => simp [dlenF]; omega
        | succ f => simp [dlenF]; omega
      · obtain ⟨h3, h4⟩ := h2 hz
        rw [show dlenF f (n / 10) + 1 - 1 = (dlenF f (n / 10) - 1) + 1 by omega, Nat.pow_succ]
        omega
theorem pow_lt_inv {a b : Nat} (h : 10 ^ a < 10 ^ b) : a < b := by
  rcases Nat.lt_or_ge a b with h1 | h1
  · exact h1
  · have := Nat.pow_le_pow_right (n := 10) (by decide) h1
    omega
theorem len_unique {n a b : Nat} (ha : 0 < a) (hb : 0 < b) (h1 : 10 ^ (a - 1) ≤ n) (h2 : n < 10 ^ a) (h3 : 10 ^ (b - 1) ≤ n) (h4 : n < 10 ^ b) : a = b := by
  have h5 : a - 1 < b := pow_lt_inv (Nat.lt_of_le_of_lt h1 h4)
  have h6 : b - 1 < a := pow_lt_inv (Nat.lt_of_le_of_lt h3 h2)
  omega
theorem dlen_zero : dlen 0 = 0 := rfl
theorem dlen_lt (n : Nat) : n < 10 ^ dlen n := (dlenF_bd n n (Nat.le_refl _)).1
theorem dlen_pos (n : Nat) (h : 0 < n) : 0 < dlen n := ((dlenF_bd n n (Nat.le_refl _)).2 h).1
theorem dlen_ge (n : Nat) (h : 0 < n) : 10 ^ (dlen n - 1) ≤ n := ((dlenF_bd n n (Nat.le_refl _)).2 h).2
theorem dlen_eq {n a : Nat} (ha : 0 < a) (h1 : 10 ^ (a - 1) ≤ n) (h2 : n < 10 ^ a) : dlen n = a := by
  have hp : 0 < n := Nat.lt_of_lt_of_le (Nat.pow_pos (by decide)) h1
  exact len_unique (dlen_pos n hp) ha (dlen_ge n hp) (dlen_lt n) h1 h2
theorem dlen_digs (n : Nat) (h0 : 0 < n) (h : n < 1000000000000000) : digs n = dlen n :=
  (dlen_eq (by have := digs_le n; omega) (digs_ge n h0) (digs_lt n h)).symm
/-- digits whose first one isn't 0 are as many as the number has -/
theorem dlen_natOf (d : Nat) (ds : List Nat) (h : Dig (d :: ds)) (h0 : d ≠ 0) : dlen (natOf (d :: ds)) = ds.length + 1 :=
  dlen_eq (by omega) (by simpa using natOf_ge d ds h0) (natOf_lt _ h)
theorem dlen_bare (ds : List Nat) (h : Dig ds) : dlen (natOf ds) = (bareL ds).length := by
  cases hb : bareL ds with
  | nil => rw [(bareL_nil ds).1 hb]; rfl
  | cons d l =>
    have h1 := bareL_head _ _ _ hb
    have h2 := bareL_dig h
    rw [hb] at h2
    rw [← bareL_nat ds, hb]
    exact dlen_natOf d l h2 h1
theorem dlen_mono {a b : Nat} (h : a ≤ b) : dlen a ≤ dlen b := by
  rcases Nat.eq_zero_or_pos a with h0 | h0
  · rw [h0, dlen_zero]; omega
  · have h1 := dlen_ge a h0
    have h2 := dlen_lt b
    have := pow_lt_inv (Nat.lt_of_le_of_lt (Nat.le_trans h1 h) h2)
    have := dlen_pos a h0
    omega
/-- the last k digits rounded away: to the nearest, of two to the even one -/
def rhe (n k : Nat) : Nat := if 10 ^ k < 2 * (n % 10 ^ k) ∨ (2 * (n % 10 ^ k) = 10 ^ k ∧ n / 10 ^ k % 2 = 1) then n / 10 ^ k + 1 else n / 10 ^ k
theorem rhe_zero (n : Nat) : rhe n 0 = n := by
  unfold rhe
  rw [Nat.pow_zero, Nat.mod_one, if_neg (by omega), Nat.div_one]
theorem rhe_big (n k : Nat) (h : dlen n < k) : rhe n k = 0 := by
  have h1 := dlen_lt n
  have h2 : 10 ^ (dlen n + 1) ≤ 10 ^ k := Nat.pow_le_pow_right (by decide) h
  rw [Nat.pow_succ] at h2
  unfold rhe
  rw [Nat.mod_eq_of_lt (by omega), Nat.div_eq_of_lt (by omega), if_neg (by omega)]
theorem rhe_le (n k : Nat) (m : Nat) (h : n < 10 ^ (m + k)) : rhe n k ≤ 10 ^ m := by
  have h1 : n / 10 ^ k < 10 ^ m := by rw [Nat.div_lt_iff_lt_mul (Nat.pow_pos (by decide)), ← Nat.pow_add]; exact h
  unfold rhe
  split <;> omega
theorem rhe_ge (n k m : Nat) (h : 10 ^ (m + k) ≤ n) : 10 ^ m ≤ rhe n k := by
  have h1 : 10 ^ m ≤ n / 10 ^ k := by rw [Nat.le_div_iff_mul_le (Nat.pow_pos (by decide)), ← Nat.pow_add]; exact h
  unfold rhe
  split <;> omega
/-- without noughts at the end -/
def trimF : Nat → Nat → Int → Nat × Int
  | 0, n, e => (n, e)
  | f + 1, n, e => if n % 10 = 0 then trimF f (n / 10) (e + 1) else (n, e)
def pTrim (n : Nat) (e : Int) : Nat × Int := if n = 0 then (0, 0) else trimF n n e
theorem trimF_fuel : ∀ f g n e, 0 < n → n ≤ f → n ≤ g → trimF f n e = trimF g n e := by
  intro f
  induction f with
  | zero => intro g n e h0 h1 h2; omega
  | succ f ih =>
    intro g n e h0 h1 h2
    cases g with
    | zero => omega
    | succ g =>
      simp only [trimF]
      split
      · exact ih g (n / 10) (e + 1) (by omega) (by omega) (by omega)
      · rfl
theorem pTrim_step (n : Nat) (e : Int) (h0 : 0 < n) (h : n % 10 = 0) : pTrim n e = pTrim (n / 10) (e + 1) := by
  unfold pTrim
  rw [if_neg (by omega), if_neg (by omega)]
  obtain ⟨f, rfl⟩ : ∃ f, n = f + 1 := ⟨n - 1, by omega⟩
  rw [trimF, if_pos h]
  exact trimF_fuel _ _ _ _ (by omega) (by omega) (Nat.le_refl _)
theorem pTrim_stop (n : Nat) (e : Int) (h : n % 10 ≠ 0) : pTrim n e = (n, e) := by
  unfold pTrim
  have : n ≠ 0 := by intro h0; subst h0; simp at h
  rw [if_neg this]
  obtain ⟨f, rfl⟩ : ∃ f, n = f + 1 := ⟨n - 1, by omega⟩
  rw [trimF, if_neg h]
theorem pTrim_zero (e : Int) : pTrim 0 e = (0, 0) := rfl
/-- what trimming keeps -/
theorem pTrim_is (n : Nat) (e : Int) (h0 : 0 < n) : ∃ k : Nat, n = (pTrim n e).1 * 10 ^ k ∧ (pTrim n e).2 = e + k ∧ (pTrim n e).1 % 10 ≠ 0 ∧ dlen n = dlen (pTrim n e).1 + k := by
  have : ∀ f n e, 0 < n → n ≤ f → ∃ k : Nat, n = (pTrim n e).1 * 10 ^ k ∧ (pTrim n e).2 = e + k ∧ (pTrim n e).1 % 10 ≠ 0 ∧ dlen n = dlen (pTrim n e).1 + k := by
    intro f
    induction f with
    | zero => intro n e h0 h1; omega
    | succ f ih =>
      intro n e h0 h1
      by_cases hm : n % 10 = 0
      · rw [pTrim_step n e h0 hm]
        obtain ⟨k, h2, h3, h4, h5⟩ := ih (n / 10) (e + 1) (by omega) (by omega)
        refine ⟨k + 1, ?_, by rw [h3]; push_cast; omega, h4, ?_⟩
        · rw [Nat.pow_succ, ← Nat.mul_assoc, ← h2]; omega
        · have hd : dlen n = dlen (n / 10) + 1 := by
            have hp : 0 < n / 10 := by omega
            have a1 := dlen_pos _ hp
            have a2 := dlen_ge _ hp
            have a3 := dlen_lt (n / 10)
            refine dlen_eq (by omega) ?_ (by rw [Nat.pow_succ]; omega)
            rw [show dlen (n / 10) + 1 - 1 = (dlen (n / 10) - 1) + 1 by omega, Nat.pow_succ]
            omega
          omega
      · rw [pTrim_stop n e hm]
        exact ⟨0, by simp, by simp, hm, by simp⟩
  exact this n n e h0 (Nat.le_refl _)
/-- at most 15 digits -/
def near1 (n : Nat) (e : Int) : Nat × Int := if 15 < dlen n then (rhe n (dlen n - 15), e + ((dlen n - 15 : Nat) : Int)) else (n, e)
/-- no power below -40 -/
def near2 (n : Nat) (e : Int) : Nat × Int := if e < -40 then (rhe n (-40 - e).toNat, -40) else (n, e)
def nearEnd (neg : Bool) (n : Nat) (e : Int) : Option (Int × Int) :=
  if n = 0 then some (0, 0) else if 40 < (dlen n : Int) + e then none else some (if neg then -(n : Int) else n, e)
/-- a decimal, rounded -/
def pNear (neg : Bool) (n : Nat) (e : Int) : Option (Int × Int) :=
  nearEnd neg (pTrim (near2 (near1 n e).1 (near1 n e).2).1 (near2 (near1 n e).1 (near1 n e).2).2).1 (pTrim (near2 (near1 n e).1 (near1 n e).2).1 (near2 (near1 n e).1 (near1 n e).2).2).2
/-- does what is cut off round what is kept up? -/
def upB (H : List Nat) (x : Nat) (R : List Nat) : Bool := decide (5 < x) || (decide (x = 5) && (decide (0 < (bareL R).length) || decide (natOf H % 2 = 1)))
theorem rhe_digits (H : List Nat) (x : Nat) (R : List Nat) (h : Dig (x :: R)) : rhe (natOf (H ++ x :: R)) (R.length + 1) = natOf H + (if upB H x R then 1 else 0) := by
  have hlt := natOf_lt (x :: R) h
  have hR := natOf_lt R h.tail
  have hb := bareL_nil R
  have hc := natOf_cons x R
  rw [List.length_cons] at hlt
  have hp : 0 < 10 ^ R.length := Nat.pow_pos (by decide)
  have hx := h.head
  have hpow : 10 ^ (R.length + 1) = 10 ^ R.length * 10 := Nat.pow_succ ..
  have e1 : natOf (H ++ x :: R) / 10 ^ (R.length + 1) = natOf H := by
    rw [natOf_append, List.length_cons, Nat.add_comm, Nat.add_mul_div_right _ _ (Nat.pow_pos (by decide)), Nat.div_eq_of_lt hlt, Nat.zero_add]
  have e2 : natOf (H ++ x :: R) % 10 ^ (R.length + 1) = natOf (x :: R) := by
    rw [natOf_append, List.length_cons, Nat.add_comm, Nat.add_mul_mod_self_right, Nat.mod_eq_of_lt hlt]
  unfold rhe
  rw [e1, e2, hc, hpow]
  have hz : (0 < (bareL R).length) ↔ 0 < natOf R := by
    constructor
    · intro g
      rcases Nat.eq_zero_or_pos (natOf R) with z | z
      · rw [hb.2 z] at g; simp at g
      · exact z
    · intro g
      rcases Nat.eq_zero_or_pos (bareL R).length with z | z
      · rw [hb.1 (List.eq_nil_of_length_eq_zero z)] at g; omega
      · exact z
  generalize 10 ^ R.length = p at *
  generalize natOf R = r at *
  have hU : upB H x R = true ↔ (5 < x ∨ (x = 5 ∧ (0 < r ∨ natOf H % 2 = 1))) := by
    unfold upB
    simp only [Bool.or_eq_true, Bool.and_eq_true, decide_eq_true_eq]
    rw [hz]
  have key : (p * 10 < 2 * (x * p + r) ∨ (2 * (x * p + r) = p * 10 ∧ natOf H % 2 = 1)) ↔ (5 < x ∨ (x = 5 ∧ (0 < r ∨ natOf H % 2 = 1))) := by
    rcases (by omega : x ≤ 4 ∨ x = 5 ∨ 6 ≤ x) with g | g | g
    · have : x * p ≤ 4 * p := Nat.mul_le_mul_right _ g
      omega
    · subst g; omega
    · have : 6 * p ≤ x * p := Nat.mul_le_mul_right _ g
      omega
  by_cases g : upB H x R = true
  · rw [if_pos (key.2 (hU.1 g)), if_pos g]
  · rw [if_neg (fun q => g (hU.2 (key.1 q))), if_neg g]
    omega
/-- as far as a place the digits stand, behind it there are noughts -/
def inc (H : List Nat) (k : Nat) : List Nat := H.take k ++ List.replicate (H.length - k) 0
theorem inc_len (H : List Nat) (k : Nat) (h : k ≤ H.length) : (inc H k).length = H.length := by unfold inc; simp; omega
theorem inc_all (H : List Nat) : inc H H.length = H := by unfold inc; simp
theorem inc_split (H : List Nat) (m : Nat) (h : m < H.length) : inc H (m + 1) = H.take m ++ H[m] :: List.replicate (H.length - (m + 1)) 0 := by
  unfold inc
  rw [List.take_succ_eq_append_getElem h, List.append_assoc]
  rfl
theorem inc_get (H : List Nat) (m : Nat) (h : m < H.length) (h' : m < (inc H (m + 1)).length) : (inc H (m + 1))[m] = H[m] := by
  have h2 : (inc H (m + 1))[m]? = some H[m] := by
    rw [inc_split H m h, List.getElem?_append_right (by simp; omega), List.length_take, Nat.min_eq_left (by omega), Nat.sub_self]
    rfl
  rw [List.getElem?_eq_getElem h'] at h2
  injection h2
theorem inc_set (H : List Nat) (m c : Nat) (h : m < H.length) : (inc H (m + 1)).set m c = H.take m ++ c :: List.replicate (H.length - (m + 1)) 0 := by
  rw [inc_split H m h, List.set_append_right (h := by simp; omega), List.length_take, Nat.min_eq_left (by omega), Nat.sub_self, List.set_cons_zero]
theorem inc_down (H : List Nat) (m : Nat) (h : m < H.length) : (inc H (m + 1)).set m 0 = inc H m := by
  rw [inc_set H m 0 h]
  unfold inc
  rw [show H.length - m = (H.length - (m + 1)) + 1 by omega, List.replicate_succ]
/-- behind a place there are nines alone -/
def Nines (H : List Nat) (k : Nat) : Prop := H.drop k = List.replicate (H.length - k) 9
theorem Nines.all (H : List Nat) : Nines H H.length := by unfold Nines; simp
theorem Nines.down {H : List Nat} {m : Nat} (h : Nines H (m + 1)) (hm : m < H.length) (h9 : H[m] = 9) : Nines H m := by
  unfold Nines at h ⊢
  rw [List.drop_eq_getElem_cons hm, h, h9, show H.length - m = (H.length - (m + 1)) + 1 by omega, List.replicate_succ]
theorem inc_up (H : List Nat) (m : Nat) (hm : m < H.length) (h : Nines H (m + 1)) : natOf (H.take m ++ (H[m] + 1) :: List.replicate (H.length - (m + 1)) 0) = natOf H + 1 := by
  have hH : H = H.take m ++ H[m] :: List.replicate (H.length - (m + 1)) 9 := by
    have : H = H.take m ++ H.drop m := (List.take_append_drop m H).symm
    conv => lhs; rw [this]
    rw [List.drop_eq_getElem_cons hm, h]
  have h9 := natOf_nines (H.length - (m + 1))
  have h0 := natOf_zeros (H.length - (m + 1))
  have e2 : natOf H = natOf (H.take m ++ H[m] :: List.replicate (H.length - (m + 1)) 9) := congrArg natOf hH
  rw [e2]
  generalize H.length - (m + 1) = q at *
  rw [natOf_append, natOf_append, natOf_cons, natOf_cons]
  simp only [List.length_cons, List.length_replicate, Nat.add_mul]
  omega
theorem inc_over (H : List Nat) (h : Nines H 0) : natOf (1 :: List.replicate H.length 0) = natOf H + 1 := by
  unfold Nines at h
  simp only [List.drop_zero, Nat.sub_zero] at h
  have h9 := natOf_nines H.length
  have e2 : natOf H = natOf (List.replicate H.length 9) := congrArg natOf h
  rw [e2, natOf_cons, natOf_zeros, List.length_replicate]
  omega
theorem Dig.zeros (n : Nat) : Dig (List.replicate n 0) := fun d hd => by rw [List.mem_replicate] at hd; omega
theorem Dig.cons {d : Nat} {l : List Nat} (h1 : d ≤ 9) (h2 : Dig l) : Dig (d :: l) := fun x hx => by
  rcases List.mem_cons.1 hx with h | h
  · omega
  · exact h2 x h
/-- the first digit isn't 0 -/
def Lead (ds : List Nat) : Prop := ∀ d t, ds = d :: t → d ≠ 0
theorem lead_bare (ds : List Nat) : Lead (bareL ds) := fun d t h => bareL_head ds d t h
theorem Lead.take {ds : List Nat} (h : Lead ds) (n : Nat) : Lead (ds.take n) := by
  intro d t e
  cases ds with
  | nil => simp at e
  | cons x ds =>
    cases n with
    | zero => simp at e
    | succ n => simp at e; rw [← e.1]; exact h x ds rfl
theorem Lead.up {H : List Nat} (h : Lead H) (m : Nat) (hm : m < H.length) (l : List Nat) : Lead (H.take m ++ (H[m] + 1) :: l) := by
  intro d t e
  cases m with
  | zero => simp at e; omega
  | succ m =>
    cases H with
    | nil => simp at hm
    | cons x H => simp at e; rw [← e.1]; exact h x H rfl
theorem lead_len {ds : List Nat} (h : Lead ds) (hd : Dig ds) : dlen (natOf ds) = ds.length := by
  cases ds with
  | nil => rfl
  | cons d t => exact dlen_natOf d t hd (h d t rfl)
theorem last_odd (H : List Nat) (n : Nat) (hn : n + 1 = H.length) : natOf H % 2 = H[n] % 2 := by
  have : H = H.take n ++ [H[n]] := by
    rw [← List.take_succ_eq_append_getElem (by omega), List.take_of_length_le (by omega)]
  have e : natOf H = 10 * natOf (H.take n) + H[n] := by
    have := congrArg natOf this
    rw [natOf_snoc] at this
    exact this
  omega
def dlF : Nat → Nat → List Nat
  | 0, _ => []
  | f + 1, n => if n = 0 then [] else dlF f (n / 10) ++ [n % 10]
/-- a number's digits, the first one first; 0 has none -/
def dl (n : Nat) : List Nat := dlF n n
theorem dlF_fuel : ∀ f g n, n ≤ f → n ≤ g → dlF f n = dlF g n := by
  intro f
  induction f with
  | zero =>
    intro g n h1 h2
    obtain rfl : n = 0 := by omega
    cases g <;> simp [dlF]
  | succ f ih =>
    intro g n h1 h2
    cases g with
    | zero =>
      obtain rfl : n = 0 := by omega
      simp [dlF]
    | succ g =>
      simp only [dlF]
      split
      · rfl
      · rw [ih g (n / 10) (by omega) (by omega)]
theorem dl_zero : dl 0 = [] := rfl
theorem dl_step (n : Nat) (h : 0 < n) : dl n = dl (n / 10) ++ [n % 10] := by
  unfold dl
  obtain ⟨f, rfl⟩ : ∃ f, n = f + 1 := ⟨n - 1, by omega⟩
  rw [dlF, if_neg (by omega), dlF_fuel f ((f + 1) / 10) _ (by omega) (Nat.le_refl _)]
theorem dl_ind (P : Nat → Prop) (h0 : P 0) (hs : ∀ n, 0 < n → P (n / 10) → P n) : ∀ n, P n := by
  intro n
  induction n using Nat.strongRecOn with
  | _ n ih =>
    rcases Nat.eq_zero_or_pos n with h | h
    · rw [h]; exact h0
    · exact hs n h (ih (n / 10) (by omega))
theorem dl_nat (n : Nat) : natOf (dl n) = n := by
  refine dl_ind (fun n => natOf (dl n) = n) rfl (fun n h ih => ?_) n
  rw [dl_step n h, natOf_snoc, ih]
  omega
theorem dl_dig (n : Nat) : Dig (dl n) := by
  refine dl_ind (fun n => Dig (dl n)) (fun _ h => by cases h) (fun n h ih => ?_) n
  rw [dl_step n h]
  exact ih.append (fun d hd => by simp at hd; omega)
theorem dl_ne (n : Nat) (h : 0 < n) : dl n ≠ [] := by rw [dl_step n h]; simp
theorem dl_lead (n : Nat) : Lead (dl n) := by
  refine dl_ind (fun n => Lead (dl n)) (fun d t h => by cases h) (fun n h ih => ?_) n
  intro d t e
  rw [dl_step n h] at e
  rcases Nat.eq_zero_or_pos (n / 10) with z | z
  · rw [z, dl_zero] at e
    simp at e
    omega
  · cases hd : dl (n / 10) with
    | nil => exact absurd hd (dl_ne _ z)
    | cons x l =>
      rw [hd] at e ih
      simp at e
      rw [← e.1]
      exact ih x l rfl
theorem dl_len (n : Nat) : (dl n).length = dlen n := by
  rw [← lead_len (dl_lead n) (dl_dig n), dl_nat]
theorem dl_len_le (n : Nat) (h : n < 18446744073709551616) : (dl n).length ≤ 20 := by
  rw [dl_len]
  rcases Nat.eq_zero_or_pos n with z | z
  · rw [z, dlen_zero]; omega
  · have h1 := dlen_ge n z
    have h2 : 10 ^ (dlen n - 1) < 10 ^ 20 := Nat.lt_of_le_of_lt h1 (Nat.lt_of_lt_of_le h (by decide))
    have := pow_lt_inv h2
    omega
def digL (l : Bs) : List Nat := l.map fun c => c.toNat - 48
theorem digL_append (a b : Bs) : digL (a ++ b) = digL a ++ digL b := by simp [digL]
theorem digL_len (a : Bs) : (digL a).length = a.length := by simp [digL]
theorem isDigit_iff (c : UInt8) : isDigit c = true ↔ 48 ≤ c.toNat ∧ c.toNat ≤ 57 := by simp [isDigit]
theorem digL_dig (l : Bs) (n : Nat) (h : n ≤ runP isDigit l) : Dig (digL (l.take n)) := by
  intro d hd
  unfold digL at hd
  rw [List.mem_map] at hd
  obtain ⟨c, hc, rfl⟩ := hd
  obtain ⟨k, hk, rfl⟩ := List.getElem_of_mem hc
  rw [List.length_take] at hk
  rw [List.getElem_take]
  have := (isDigit_iff _).1 (runP_lt isDigit l k (by omega) (by omega))
  omega
/-- a reader of a number's text -/
structure Rd where
  st : Nat
  neg : Bool
  negPow : Bool
  ds : List Nat
  behind : Nat
  pow : Nat
def rd0 : Rd := ⟨0, false, false, [], 0, 0⟩
def powStep (p d : Nat) : Nat := if p < 100000 then p * 10 + d else p
def Rd.digit (r : Rd) (d : Nat) : Rd :=
  if r.st ≤ 2 then { r with st := 2, ds := r.ds ++ [d] }
  else if r.st ≤ 4 then { r with st := 4, ds := r.ds ++ [d], behind := r.behind + 1 }
  else { r with st := 7, pow := powStep r.pow d }
def Rd.take (r : Rd) (c : Nat) : Option Rd :=
  if 48 ≤ c ∧ c ≤ 57 then some (r.digit (c - 48))
  else if c = 45 ∧ r.st = 0 then some { r with neg := true, st := 1 }
  else if c = 46 ∧ r.st ≤ 2 then some { r with st := 3 }
  else if (c = 101 ∨ c = 69) ∧ (r.st = 2 ∨ r.st = 4) then some { r with st := 5 }
  else if (c = 45 ∨ c = 43) ∧ r.st = 5 then some { r with negPow := decide (c = 45), st := 6 }
  else none
def Rd.all : Rd → Bs → Option Rd
  | r, [] => some r
  | r, c :: l => match r.take c.toNat with | some r' => r'.all l | none => none
/-- what a reader that came to the end tells: sign, digits, how many behind the point, the power's sign, the power -/
def Rd.fin (r : Rd) : Option (Bool × List Nat × Nat × Bool × Nat) := if r.st = 2 ∨ r.st = 4 ∨ r.st = 7 then some (r.neg, r.ds, r.behind, r.negPow, r.pow) else none
def Rd.digits (r : Rd) (l : List Nat) : Rd := l.foldl Rd.digit r
theorem all_run (r : Rd) (l : Bs) : r.all l = (r.digits (digL (l.take (runP isDigit l)))).all (l.drop (runP isDigit l)) := by
  induction l generalizing r with
  | nil => rfl
  | cons c l ih =>
    by_cases h : isDigit c = true
    · have e : runP isDigit (c :: l) = runP isDigit l + 1 := by simp [runP, h]
      rw [e]
      simp only [List.take_succ_cons, List.drop_succ_cons]
      have hc := (isDigit_iff c).1 h
      show (match r.take c.toNat with | some r' => r'.all l | none => none) = _
      have ht : r.take c.toNat = some (r.digit (c.toNat - 48)) := if_pos hc
      rw [ht]
      exact ih _
    · have e : runP isDigit (c :: l) = 0 := by simp [runP, h]
      rw [e]
      rfl
theorem digits_whole (L : List Nat) (r : Rd) (h : r.st ≤ 2) (hL : L ≠ []) : r.digits L = { r with st := 2, ds := r.ds ++ L } := by
  induction L generalizing r with
  | nil => exact absurd rfl hL
  | cons d L ih =>
    have e : r.digit d = { r with st := 2, ds := r.ds ++ [d] } := if_pos h
    show (r.digit d).digits L = _
    rw [e]
    by_cases hl : L = []
    · rw [hl]; rfl
    · rw [ih _ (Nat.le_refl _) hl]
      simp
theorem digits_part (L : List Nat) (r : Rd) (h : r.st = 3 ∨ r.st = 4) (hL : L ≠ []) : r.digits L = { r with st := 4, ds := r.ds ++ L, behind := r.behind + L.length } := by
  induction L generalizing r with
  | nil => exact absurd rfl hL
  | cons d L ih =>
    have e : r.digit d = { r with st := 4, ds := r.ds ++ [d], behind := r.behind + 1 } := by
      unfold Rd.digit; rw [if_neg (by omega), if_pos (by omega)]
    show (r.digit d).digits L = _
    rw [e]
    by_cases hl : L = []
    · rw [hl]; rfl
    · rw [ih _ (.inr rfl) hl]
      simp
      omega
theorem digits_pow (L : List Nat) (r : Rd) (h : 5 ≤ r.st) (hL : L ≠ []) : r.digits L = { r with st := 7, pow := L.foldl powStep r.pow } := by
  induction L generalizing r with
  | nil => exact absurd rfl hL
  | cons d L ih =>
    have e : r.digit d = { r with st := 7, pow := powStep r.pow d } := by
      unfold Rd.digit; rw [if_neg (by omega), if_neg (by omega)]
    show (r.digit d).digits L = _
    rw [e]
    by_cases hl : L = []
    · rw [hl]; rfl
    · rw [ih _ (by show 5 ≤ 7; omega) hl]
      rfl
/-- a power's text: its sign, its digits -/
def pPowT (l : Bs) : Option (Bool × List Nat) :=
  match l with
  | [] => some (false, [])
  | c :: l => if c = 101 ∨ c = 69 then
      (let i := if atIs l 0 43 || atIs l 0 45 then 1 else 0
       if runP isDigit (l.drop i) = 0 ∨ i + runP isDigit (l.drop i) ≠ l.length then none else some (atIs l 0 45, digL (l.drop i)))
    else none
/-- a number's text: sign, digits, how many behind the point, the power -/
def pNumT (l : Bs) : Option (Bool × List Nat × Nat × Bool × List Nat) :=
  let i := if atIs l 0 45 then 1 else 0
  let a := runP isDigit (l.drop i)
  if atIs l (i + a) 46 then
    let b := runP isDigit (l.drop (i + a + 1))
    if b = 0 then none else (pPowT (l.drop (i + a + 1 + b))).map fun p => (atIs l 0 45, digL ((l.drop i).take a) ++ digL ((l.drop (i + a + 1)).take b), b, p.1, p.2)
  else if a = 0 then none else (pPowT (l.drop (i + a))).map fun p => (atIs l 0 45, digL ((l.drop i).take a), 0, p.1, p.2)
def powN (L : List Nat) : Nat := L.foldl powStep 0
/-- behind e: no sign any more -/
theorem pow_end (r : Rd) (l : Bs) (h : r.st = 5 ∨ r.st = 6) (h0 : r.pow = 0) (hs : r.st = 5 → ∀ c t, l = c :: t → c ≠ 43 ∧ c ≠ 45) :
    (r.all l).bind Rd.fin = if runP isDigit l = 0 ∨ runP isDigit l ≠ l.length then none else some (r.neg, r.ds, r.behind, r.negPow, powN (digL l)) := by
  have hle := runP_le isDigit l
  rw [all_run]
  by_cases hz : runP isDigit l = 0
  · rw [hz, if_pos (.inl rfl)]
    simp only [List.take_zero, List.drop_zero]
    show (r.all l).bind Rd.fin = none
    cases l with
    | nil => simp only [Rd.all, Option.bind_some]; unfold Rd.fin; rw [if_neg (by omega)]
    | cons c t =>
      have hd : isDigit c = false := by
        cases hc : isDigit c
        · rfl
        · simp [runP, hc] at hz
      have hn : ¬ (48 ≤ c.toNat ∧ c.toNat ≤ 57) := fun h => by rw [(isDigit_iff c).2 h] at hd; cases hd
      have ht : r.take c.toNat = none := by
        unfold Rd.take
        rw [if_neg hn, if_neg (by omega), if_neg (by omega), if_neg (by omega), if_neg ?_]
        rintro ⟨h1, h2⟩
        obtain ⟨h3, h4⟩ := hs h2 c t rfl
        rcases h1 with h1 | h1
        · exact h4 (u8_eq (by rw [h1]; rfl))
        · exact h3 (u8_eq (by rw [h1]; rfl))
      simp only [Rd.all, ht]
      rfl
  · have hne : digL (l.take (runP isDigit l)) ≠ [] := by
      intro h
      have := congrArg List.length h
      rw [digL_len, List.length_take] at this
      simp at this
      rcases this with h1 | h1
      · exact hz h1
      · rw [h1] at hz; exact hz rfl
    rw [digits_pow _ r (by omega) hne]
    by_cases hf : runP isDigit l = l.length
    · rw [if_neg (by omega), hf, List.drop_of_length_le (Nat.le_refl _), List.take_of_length_le (Nat.le_refl _)]
      simp only [Rd.all, Option.bind_some]
      unfold Rd.fin
      rw [if_pos (.inr (.inr rfl)), h0]
      rfl
    · rw [if_pos (.inr hf)]
      have hlt : runP isDigit l < l.length := by omega
      have hst := runP_stop isDigit l hlt
      rw [List.drop_eq_getElem_cons hlt]
      generalize l[runP isDigit l] = c at *
      have hn : ¬ (48 ≤ c.toNat ∧ c.toNat ≤ 57) := fun h => by rw [(isDigit_iff c).2 h] at hst; cases hst
      generalize hr : ({ r with st := 7, pow := _ } : Rd) = q
      have hq : q.st = 7 := by rw [← hr]
      have ht : q.take c.toNat = none := by
        unfold Rd.take
        rw [if_neg hn, if_neg (by omega), if_neg (by omega), if_neg (by omega), if_neg (by omega)]
      simp only [Rd.all, ht]
      rfl
/-- behind the digits -/
theorem pow_text (r : Rd) (l : Bs) (h : r.st = 2 ∨ r.st = 4) (h0 : r.pow = 0) (h1 : r.negPow = false) (hd : ∀ c t, l = c :: t → isDigit c = false ∧ (r.st = 2 → c ≠ 46)) :
    (r.all l).bind Rd.fin = (pPowT l).map fun p => (r.neg, r.ds, r.behind, p.1, powN p.2) := by
  cases l with
  | nil =>
    simp only [Rd.all, Option.bind_some]
    unfold Rd.fin pPowT
    rw [if_pos (by omega), h0, h1]
    rfl
  | cons c t =>
    obtain ⟨d1, d2⟩ := hd c t rfl
    have hn : ¬ (48 ≤ c.toNat ∧ c.toNat ≤ 57) := fun h => by rw [(isDigit_iff c).2 h] at d1; cases d1
    by_cases he : c = 101 ∨ c = 69
    · have ht : r.take c.toNat = some { r with st := 5 } := by
        have he' : c.toNat = 101 ∨ c.toNat = 69 := by rcases he with e | e <;> rw [e] <;> decide
        unfold Rd.take
        rw [if_neg hn, if_neg (by omega), if_neg (by omega), if_pos ⟨he', by omega⟩]
      simp only [Rd.all, ht]
      unfold pPowT
      simp only
      rw [if_pos he]
      cases t with
      | nil =>
        have := pow_end { r with st := 5 } [] (.inl rfl) h0 (fun _ c t h => by cases h)
        rw [this]
        rfl
      | cons x t =>
        have e43 : atIs (x :: t) 0 43 = (x == 43) := by unfold atIs; simp
        have e45 : atIs (x :: t) 0 45 = (x == 45) := by unfold atIs; simp
        rw [e43, e45]
        by_cases hx : x = 43 ∨ x = 45
        · have ht2 : ({ r with st := 5 } : Rd).take x.toNat = some { r with st := 6, negPow := (x == 45) } := by
            rcases hx with e | e <;> subst e <;> rfl
          have hb : (x == 43 || x == 45) = true := by rcases hx with e | e <;> subst e <;> rfl
          rw [hb]
          simp only [Rd.all, ht2, if_true, List.drop_succ_cons, List.drop_zero]
          rw [pow_end ⟨6, r.neg, (x == 45), r.ds, r.behind, r.pow⟩ t (.inr rfl) h0 (fun h => absurd h (by decide : ¬ (6 : Nat) = 5))]
          by_cases hk : runP isDigit t = 0 ∨ runP isDigit t ≠ t.length
          · rw [if_pos hk, if_pos (by simp only [List.length_cons]; omega)]
            rfl
          · rw [if_neg hk, if_neg (by simp only [List.length_cons]; omega)]
            rfl
        · have hb : (x == 43 || x == 45) = false := by
            rw [Bool.or_eq_false_iff, beq_eq_false_iff_ne, beq_eq_false_iff_ne]
            exact ⟨fun e => hx (.inl e), fun e => hx (.inr e)⟩
          have hb2 : (x == 45) = false := (Bool.or_eq_false_iff.1 hb).2
          rw [hb, hb2]
          simp only [Bool.false_eq_true, if_false, List.drop_zero, Nat.zero_add]
          rw [pow_end { r with st := 5 } (x :: t) (.inl rfl) h0 (fun _ c' t' h => by injection h with h1 h2; subst h1; exact ⟨fun e => hx (.inl e), fun e => hx (.inr e)⟩)]
          by_cases hk : runP isDigit (x :: t) = 0 ∨ runP isDigit (x :: t) ≠ (x :: t).length
          · rw [if_pos hk, if_pos hk]
            rfl
          · rw [if_neg hk, if_neg hk]
            simp only [Option.map_some]
            rw [h1]
    · have ht : r.take c.toNat = none := by
        unfold Rd.take
        rw [if_neg hn, if_neg (by omega), if_neg ?_, if_neg ?_, if_neg (by omega)]
        · rintro ⟨e, _⟩
          rcases e with e | e
          · exact he (.inl (u8_eq (by rw [e]; rfl)))
          · exact he (.inr (u8_eq (by rw [e]; rfl)))
        · rintro ⟨e, hst⟩
          exact d2 (by omega) (u8_eq (by rw [e]; rfl))
      simp only [Rd.all, ht]
      unfold pPowT
      simp only
      rw [if_neg he]
      rfl
theorem pPowT_map (l : Bs) (f g : Bool × List Nat → Bool × List Nat × Nat × Bool × Nat) (h : ∀ p, f p = g p) : (pPowT l).map f = (pPowT l).map g := by
  congr 1; funext p; exact h p
theorem drop_cons_at {l t : Bs} {n : Nat} {c : UInt8} (h : l.drop n = c :: t) (d : UInt8) : atIs l n d = (c == d) := by
  unfold atIs
  have : l[n]? = some c := by
    have := congrArg (fun x => x[0]?) h
    simpa using this
  rw [this]
  simp
/-- behind the sign -/
theorem num_text (r : Rd) (l : Bs) (hr : r = { rd0 with neg := r.neg, st := r.st }) (h : r.st ≤ 1) (hm : r.st = 0 → atIs l 0 45 = false) :
    (r.all l).bind Rd.fin = (if atIs l (runP isDigit l) 46 then
      (if runP isDigit (l.drop (runP isDigit l + 1)) = 0 then none else (pPowT (l.drop (runP isDigit l + 1 + runP isDigit (l.drop (runP isDigit l + 1))))).map fun p => (r.neg, digL (l.take (runP isDigit l)) ++ digL ((l.drop (runP isDigit l + 1)).take (runP isDigit (l.drop (runP isDigit l + 1)))), runP isDigit (l.drop (runP isDigit l + 1)), p.1, powN p.2))
    else if runP isDigit l = 0 then none else (pPowT (l.drop (runP isDigit l))).map fun p => (r.neg, digL (l.take (runP isDigit l)), 0, p.1, powN p.2)) := by
  have hle := runP_le isDigit l
  have h0 : r.pow = 0 := by rw [hr]; rfl
  have h1 : r.negPow = false := by rw [hr]; rfl
  have h2 : r.ds = [] := by rw [hr]; rfl
  have h3 : r.behind = 0 := by rw [hr]; rfl
  rw [all_run]
  have hstop : ∀ c t, l.drop (runP isDigit l) = c :: t → isDigit c = false := by
    intro c t e
    have hlt : runP isDigit l < l.length := by
      rcases Nat.lt_or_ge (runP isDigit l) l.length with g | g
      · exact g
      · rw [List.drop_of_length_le g] at e; cases e
    rw [List.drop_eq_getElem_cons hlt] at e
    injection e with e1 _
    rw [← e1]
    exact runP_stop isDigit l hlt
  have hlen : (digL (l.take (runP isDigit l))).length = runP isDigit l := by rw [digL_len, List.length_take]; omega
  generalize hn : runP isDigit l = n at *
  -- the digits ahead
  obtain ⟨q, hq, q1, q2, q3, q4, q5, q6, q7⟩ : ∃ q : Rd, r.digits (digL (l.take n)) = q ∧ q.st ≤ 2 ∧ (q.st = 2 ↔ n ≠ 0) ∧ q.neg = r.neg ∧ q.ds = digL (l.take n) ∧ q.behind = 0 ∧ q.pow = 0 ∧ q.negPow = false := by
    by_cases hz : n = 0
    · subst hz
      exact ⟨r, rfl, by omega, by constructor <;> intro g <;> omega, rfl, by rw [h2]; rfl, h3, h0, h1⟩
    · have hne : digL (l.take n) ≠ [] := by intro e; rw [e] at hlen; simp at hlen; omega
      refine ⟨_, digits_whole _ r (by omega) hne, Nat.le_refl _, ⟨fun _ => hz, fun _ => rfl⟩, rfl, ?_, h3, h0, h1⟩
      show r.ds ++ _ = _
      rw [h2]; rfl
  rw [hq]
  cases hd : l.drop n with
  | nil =>
    have hat : atIs l n 46 = false := at_out l n 46 (by
      have := congrArg List.length hd
      rw [List.length_drop] at this
      simp at this
      omega)
    rw [hat]
    simp only [Bool.false_eq_true, if_false, Rd.all, Option.bind_some]
    by_cases hz : n = 0
    · rw [if_pos hz]
      have : q.st ≠ 2 := fun g => (q2.1 g) hz
      unfold Rd.fin
      rw [if_neg (by omega)]
    · rw [if_neg hz]
      unfold Rd.fin pPowT
      rw [if_pos (.inl (q2.2 hz)), q3, q4, q5, q6, q7]
      rfl
  | cons c t =>
    have hc := hstop c t hd
    have hnd : ¬ (48 ≤ c.toNat ∧ c.toNat ≤ 57) := fun g => by rw [(isDigit_iff c).2 g] at hc; cases hc
    rw [drop_cons_at hd 46]
    by_cases h46 : c = 46
    · subst h46
      have ht : q.take (46 : UInt8).toNat = some { q with st := 3 } := by
        unfold Rd.take
        rw [if_neg (by decide), if_neg (by intro g; exact absurd g.1 (by decide)), if_pos ⟨rfl, q1⟩]
      have hdt : l.drop (n + 1) = t := by
        have : l.drop (n + 1) = (l.drop n).drop 1 := by rw [List.drop_drop]
        rw [this, hd]; rfl
      have hdb : ∀ b, l.drop (n + 1 + b) = t.drop b := by
        intro b
        rw [← List.drop_drop, hdt]
      simp only [Rd.all, ht, beq_self_eq_true, if_true]
      rw [hdt, hdb, all_run]
      have hlet := runP_le isDigit t
      by_cases hb : runP isDigit t = 0
      · rw [if_pos hb, hb]
        simp only [List.take_zero, List.drop_zero]
        show (Rd.all { q with st := 3 } t).bind Rd.fin = none
        cases t with
        | nil => rfl
        | cons x t =>
          have hx : isDigit x = false := by
            cases hx : isDigit x
            · rfl
            · simp [runP, hx] at hb
          have hxn : ¬ (48 ≤ x.toNat ∧ x.toNat ≤ 57) := fun g => by rw [(isDigit_iff x).2 g] at hx; cases hx
          have ht3 : ({ q with st := 3 } : Rd).take x.toNat = none := by
            unfold Rd.take
            simp only
            rw [if_neg hxn, if_neg (by omega), if_neg (by omega), if_neg (by omega), if_neg (by omega)]
          simp only [Rd.all, ht3]
          rfl
      · rw [if_neg hb]
        have hne : digL (t.take (runP isDigit t)) ≠ [] := by
          intro e
          have := congrArg List.length e
          rw [digL_len, List.length_take] at this
          simp only [List.length_nil] at this
          omega
        rw [digits_part _ { q with st := 3 } (.inl rfl) hne]
        have hlt2 : (digL (t.take (runP isDigit t))).length = runP isDigit t := by rw [digL_len, List.length_take]; omega
        rw [hlt2]
        refine (pow_text ⟨4, q.neg, q.negPow, q.ds ++ digL (t.take (runP isDigit t)), q.behind + runP isDigit t, q.pow⟩ (t.drop (runP isDigit t)) (.inr rfl) q6 q7 ?_).trans ?_
        rotate_left
        · simp only [q3, q4, q5, Nat.zero_add]
        · intro x t' e
          have hlt : runP isDigit t < t.length := by
            rcases Nat.lt_or_ge (runP isDigit t) t.length with g | g
            · exact g
            · rw [List.drop_of_length_le g] at e; cases e
          rw [List.drop_eq_getElem_cons hlt] at e
          injection e with e1 _
          rw [← e1]
          exact ⟨runP_stop isDigit t hlt, fun g => absurd g (by decide : ¬ (4 : Nat) = 2)⟩
    · have hb : (c == 46) = false := by rw [beq_eq_false_iff_ne]; exact h46
      rw [hb]
      simp only [Bool.false_eq_true, if_false]
      by_cases hz : n = 0
      · rw [if_pos hz]
        have hst : q.st ≠ 2 := fun g => (q2.1 g) hz
        have hqr : q = r := by rw [← hq, hz]; rfl
        have h45 : q.st = 0 → c ≠ 45 := by
          intro g e
          have hm' := hm (by rw [← hqr]; exact g)
          rw [hz] at hd
          rw [drop_cons_at hd 45, e] at hm'
          exact absurd hm' (by decide)
        have ht : q.take c.toNat = none := by
          unfold Rd.take
          rw [if_neg hnd, if_neg ?_, if_neg ?_, if_neg (by omega), if_neg (by omega)]
          · rintro ⟨e, _⟩
            exact h46 (u8_eq (by rw [e]; rfl))
          · rintro ⟨e, g⟩
            exact h45 g (u8_eq (by rw [e]; rfl))
        simp only [Rd.all, ht]
        rfl
      · rw [if_neg hz, pow_text q (c :: t) (.inl (q2.2 hz)) q6 q7 (fun x t' e => by injection e with e1 _; subst e1; exact ⟨hc, fun _ => h46⟩)]
        simp only [q3, q4, q5]
/-- A NUMBER's TEXT READ BYTE BY BYTE IS READ BY ITS PARTS -/
theorem all_text (l : Bs) : (rd0.all l).bind Rd.fin = (pNumT l).map fun p => (p.1, p.2.1, p.2.2.1, p.2.2.2.1, powN p.2.2.2.2) := by
  unfold pNumT
  cases h : atIs l 0 45
  · rw [num_text rd0 l rfl (by decide) (fun _ => h)]
    simp only [Bool.false_eq_true, if_false, List.drop_zero, Nat.zero_add]
    split
    · split
      · rfl
      · rw [Option.map_map]; rfl
    · split
      · rfl
      · rw [Option.map_map]; rfl
  · have hl : 0 < l.length := at_lt _ _ _ h
    cases l with
    | nil => simp at hl
    | cons c t =>
      have hc : c = 45 := by
        unfold atIs at h
        simpa using h
      subst hc
      have hall : rd0.all (45 :: t) = Rd.all ⟨1, true, false, [], 0, 0⟩ t := rfl
      have hat : ∀ n d, atIs (45 :: t) (1 + n) d = atIs t n d := by
        intro n d; unfold atIs; rw [Nat.add_comm]; rfl
      rw [hall, num_text ⟨1, true, false, [], 0, 0⟩ t rfl (by decide) (fun g => by cases g)]
      have hd : ∀ n, List.drop (1 + n) (45 :: t) = List.drop n t := by intro n; rw [Nat.add_comm]; rfl
      have e1 : ∀ a, 1 + a + 1 = 1 + (a + 1) := by intro a; omega
      have e2 : ∀ a b, 1 + (a + 1) + b = 1 + (a + 1 + b) := by intro a b; omega
      have hd1 : List.drop 1 (45 :: t) = t := rfl
      simp only [if_true, hd1, e1, e2, hd, hat]
      split
      · split
        · rfl
        · rw [Option.map_map]; rfl
      · split
        · rfl
        · rw [Option.map_map]; rfl
end Go.Proofs.YtpdaloohgfnbhaaGreatDoor
