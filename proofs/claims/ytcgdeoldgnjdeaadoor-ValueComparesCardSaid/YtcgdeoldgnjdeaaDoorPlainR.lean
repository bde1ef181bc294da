/-
  Plain words: digits, and a decimal that is rounded.
-/
import Derived.Test.YtcgdeoldgnjdeaaDoorPlainD
namespace Go.Proofs.YtcgdeoldgnjdeaaDoor
open Go.RowKit

/-- the number that digits tell -/
def natOf (ds : List Nat) : Nat := ds.foldl (fun a d => 10 * a + d) 0
def Dig (ds : List Nat) : Prop := ∀ d ∈ ds, d ≤ 9
theorem natOf_fold (ds : List Nat) (a : Nat) : ds.foldl (fun a d => 10 * a + d) a = a * 10 ^ ds.length + natOf ds := by
  induction ds generalizing a with
  | nil => simp [natOf]
  | cons d ds ih =>
    simp only [List.foldl_cons, List.length_cons]
    rw [ih (10 * a + d)]
    have h : natOf (d :: ds) = (10 * 0 + d) * 10 ^ ds.length + natOf ds := by
      show List.foldl _ _ ds = _
      rw [ih]
    rw [h, Nat.pow_succ, Nat.add_mul]
    have e1 : a * (10 ^ ds.length * 10) = 10 * a * 10 ^ ds.length := by rw [Nat.mul_comm (10 ^ ds.length) 10, ← Nat.mul_assoc, Nat.mul_comm a 10]
    rw [e1]
    simp only [Nat.mul_zero, Nat.zero_add]
    omega
theorem natOf_nil : natOf [] = 0 := rfl
theorem natOf_cons (d : Nat) (ds : List Nat) : natOf (d :: ds) = d * 10 ^ ds.length + natOf ds := by
  show List.foldl _ _ ds = _
  rw [natOf_fold]
  simp
theorem natOf_append (a b : List Nat) : natOf (a ++ b) = natOf a * 10 ^ b.length + natOf b := by
  unfold natOf
  rw [List.foldl_append, natOf_fold]
  rfl
theorem natOf_snoc (a : List Nat) (d : Nat) : natOf (a ++ [d]) = 10 * natOf a + d := by
  rw [natOf_append, natOf_cons]; simp [natOf_nil]; omega
theorem Dig.tail {d : Nat} {ds : List Nat} (h : Dig (d :: ds)) : Dig ds := fun x hx => h x (List.mem_cons_of_mem _ hx)
theorem Dig.head {d : Nat} {ds : List Nat} (h : Dig (d :: ds)) : d ≤ 9 := h d (List.mem_cons_self ..)
theorem Dig.take {ds : List Nat} (h : Dig ds) (n : Nat) : Dig (ds.take n) := fun x hx => h x (List.mem_of_mem_take hx)
theorem Dig.drop {ds : List Nat} (h : Dig ds) (n : Nat) : Dig (ds.drop n) := fun x hx => h x (List.mem_of_mem_drop hx)
theorem Dig.append {a b : List Nat} (ha : Dig a) (hb : Dig b) : Dig (a ++ b) := fun x hx => by
  rcases List.mem_append.1 hx with h | h
  · exact ha x h
  · exact hb x h
theorem natOf_lt (ds : List Nat) (h : Dig ds) : natOf ds < 10 ^ ds.length := by
  induction ds with
  | nil => simp [natOf]
  | cons d ds ih =>
    rw [natOf_cons, List.length_cons, Nat.pow_succ]
    have h1 := ih h.tail
    have h2 := h.head
    have h3 : d * 10 ^ ds.length ≤ 9 * 10 ^ ds.length := Nat.mul_le_mul_right _ h2
    omega
theorem natOf_ge (d : Nat) (ds : List Nat) (h : d ≠ 0) : 10 ^ ds.length ≤ natOf (d :: ds) := by
  rw [natOf_cons]
  have : 1 * 10 ^ ds.length ≤ d * 10 ^ ds.length := Nat.mul_le_mul_right _ (by omega)
  omega
theorem natOf_zeros (n : Nat) : natOf (List.replicate n 0) = 0 := by
  induction n with
  | zero => rfl
  | succ n ih => rw [List.replicate_succ, natOf_cons, ih]; simp
theorem natOf_nines (n : Nat) : natOf (List.replicate n 9) + 1 = 10 ^ n := by
  induction n with
  | zero => rfl
  | succ n ih => rw [List.replicate_succ, natOf_cons, Nat.pow_succ, List.length_replicate]; omega
/-- digits without noughts ahead -/
def bareL : List Nat → List Nat
  | [] => []
  | 0 :: l => bareL l
  | d :: l => d :: l
theorem bareL_nat (ds : List Nat) : natOf (bareL ds) = natOf ds := by
  induction ds with
  | nil => rfl
  | cons d ds ih =>
    cases d with
    | zero => rw [bareL, ih, natOf_cons]; simp
    | succ d => rfl
theorem bareL_head (ds : List Nat) (d : Nat) (l : List Nat) (h : bareL ds = d :: l) : d ≠ 0 := by
  induction ds with
  | nil => simp [bareL] at h
  | cons x ds ih =>
    cases x with
    | zero => rw [bareL] at h; exact ih h
    | succ x => simp [bareL] at h; omega
theorem bareL_drop (ds : List Nat) : ∃ k, k ≤ ds.length ∧ bareL ds = ds.drop k ∧ ds.take k = List.replicate k 0 := by
  induction ds with
  | nil => exact ⟨0, by simp [bareL]⟩
  | cons x ds ih =>
    cases x with
    | zero =>
      obtain ⟨k, hk, h1, h2⟩ := ih
      exact ⟨k + 1, by simp; omega, by simpa [bareL] using h1, by simp [List.replicate_succ, h2]⟩
    | succ x => exact ⟨0, by simp [bareL]⟩
theorem bareL_dig {ds : List Nat} (h : Dig ds) : Dig (bareL ds) := by
  obtain ⟨k, _, h1, _⟩ := bareL_drop ds
  rw [h1]; exact h.drop k
theorem bareL_len (ds : List Nat) : (bareL ds).length ≤ ds.length := by
  obtain ⟨k, _, h1, _⟩ := bareL_drop ds
  rw [h1, List.length_drop]; omega
theorem bareL_nil (ds : List Nat) : bareL ds = [] ↔ natOf ds = 0 := by
  constructor
  · intro h; rw [← bareL_nat, h]; rfl
  · intro h
    cases hb : bareL ds with
    | nil => rfl
    | cons d l =>
      have h1 := bareL_head _ _ _ hb
      have h2 := natOf_ge d l h1
      have h3 := bareL_nat ds
      rw [hb] at h3
      have : 0 < 10 ^ l.length := Nat.pow_pos (by decide)
      omega
/-- how many digits a number has, 0 has none -/
def dlenF : Nat → Nat → Nat
  | 0, _ => 0
  | f + 1, n => if n = 0 then 0 else dlenF f (n / 10) + 1
def dlen (n : Nat) : Nat := dlenF n n
theorem dlenF_bd : ∀ f n, n ≤ f → n < 10 ^ dlenF f n ∧ (0 < n → 0 < dlenF f n ∧ 10 ^ (dlenF f n - 1) ≤ n) := by
  intro f
  induction f with
  | zero => intro n h; simp [dlenF]; omega
  | succ f ih =>
    intro n h
    simp only [dlenF]
    split
    · rename_i h0; subst h0; simp
    · rename_i h0
      obtain ⟨h1, h2⟩ := ih (n / 10) (by omega)
      refine ⟨by rw [Nat.pow_succ]; omega, fun _ => ⟨by omega, ?_⟩⟩
      rcases Nat.eq_zero_or_pos (n / 10) with hz | hz
      · rw [hz]
        cases f with
        | zero => simp [dlenF]; omega
        | succ f => simp [dlenF]; omega
      · obtain ⟨h3, h4⟩ := h2 hz
        rw [show dlenF f (n / 10) + 1 - 1 = (dlenF f (n / 10) - 1) + 1 by omega, Nat.pow_succ]
        omega
theorem pow_lt_inv {a b : Nat} (h : 10 ^ a < 10 ^ b) : a < b := by
  rcases Nat.lt_or_ge a b with h1 | h1
  · exact h1
  · have := Nat.pow_le_pow_right (n := 10) (by decide) h1
    omega
theorem len_unique {n a b : Nat} (ha : 0 < a) (hb : 0 < b) (h1 : 10 ^ (a - 1) ≤ n) (h2 : n < 10 ^ a) (h3 : 10 ^ (b - 1) ≤ n) (h4 : n < 10 ^ b) : a = b := by
  have h5 : a - 1 < b := pow_lt_inv (Nat.lt_of_le_of_lt h1 h4)
  have h6 : b - 1 < a := pow_lt_inv (Nat.lt_of_le_of_lt h3 h2)
  omega
theorem dlen_zero : dlen 0 = 0 := rfl
theorem dlen_lt (n : Nat) : n < 10 ^ dlen n := (dlenF_bd n n (Nat.le_refl _)).1
theorem dlen_pos (n : Nat) (h : 0 < n) : 0 < dlen n := ((dlenF_bd n n (Nat.le_refl _)).2 h).1
theorem dlen_ge (n : Nat) (h : 0 < n) : 10 ^ (dlen n - 1) ≤ n := ((dlenF_bd n n (Nat.le_refl _)).2 h).2
theorem dlen_eq {n a : Nat} (ha : 0 < a) (h1 : 10 ^ (a - 1) ≤ n) (h2 : n < 10 ^ a) : dlen n = a := by
  have hp : 0 < n := Nat.lt_of_lt_of_le (Nat.pow_pos (by decide)) h1
  exact len_unique (dlen_pos n hp) ha (dlen_ge n hp) (dlen_lt n) h1 h2
theorem dlen_digs (n : Nat) (h0 : 0 < n) (h : n < 1000000000000000) : digs n = dlen n :=
  (dlen_eq (by have := digs_le n; omega) (digs_ge n h0) (digs_lt n h)).symm
/-- digits whose first one isn't 0 are as many as the number has -/
theorem dlen_natOf (d : Nat) (ds : List Nat) (h : Dig (d :: ds)) (h0 : d ≠ 0) : dlen (natOf (d :: ds)) = ds.length + 1 :=
  dlen_eq (by omega) (by simpa using natOf_ge d ds h0) (natOf_lt _ h)
theorem dlen_bare (ds : List Nat) (h : Dig ds) : dlen (natOf ds) = (bareL ds).length := by
  cases hb : bareL ds with
  | nil => rw [(bareL_nil ds).1 hb]; rfl
  | cons d l =>
    have h1 := bareL_head _ _ _ hb
    have h2 := bareL_dig h
    rw [hb] at h2
    rw [← bareL_nat ds, hb]
    exact dlen_natOf d l h2 h1
theorem dlen_mono {a b : Nat} (h : a ≤ b) : dlen a ≤ dlen b := by
  rcases Nat.eq_zero_or_pos a with h0 | h0
  · rw [h0, dlen_zero]; omega
  · have h1 := dlen_ge a h0
    have h2 := dlen_lt b
    have := pow_lt_inv (Nat.lt_of_le_of_lt (Nat.le_trans h1 h) h2)
    have := dlen_pos a h0
    omega
/-- the last k digits rounded away: to the nearest, of two to the even one -/
def rhe (n k : Nat) : Nat := if 10 ^ k < 2 * (n % 10 ^ k) ∨ (2 * (n % 10 ^ k) = 10 ^ k ∧ n / 10 ^ k % 2 = 1) then n / 10 ^ k + 1 else n / 10 ^ k
theorem rhe_zero (n : Nat) : rhe n 0 = n := by
  unfold rhe
  rw [Nat.pow_zero, Nat.mod_one, if_neg (by omega), Nat.div_one]
theorem rhe_big (n k : Nat) (h : dlen n < k) : rhe n k = 0 := by
  have h1 := dlen_lt n
  have h2 : 10 ^ (dlen n + 1) ≤ 10 ^ k := Nat.pow_le_pow_right (by decide) h
  rw [Nat.pow_succ] at h2
  unfold rhe
  rw [Nat.mod_eq_of_lt (by omega), Nat.div_eq_of_lt (by omega), if_neg (by omega)]
theorem rhe_le (n k : Nat) (m : Nat) (h : n < 10 ^ (m + k)) : rhe n k ≤ 10 ^ m := by
  have h1 : n / 10 ^ k < 10 ^ m := by rw [Nat.div_lt_iff_lt_mul (Nat.pow_pos (by decide)), ← Nat.pow_add]; exact h
  unfold rhe
  split <;> omega
theorem rhe_ge (n k m : Nat) (h : 10 ^ (m + k) ≤ n) : 10 ^ m ≤ rhe n k := by
  have h1 : 10 ^ m ≤ n / 10 ^ k := by rw [Nat.le_div_iff_mul_le (Nat.pow_pos (by decide)), ← Nat.pow_add]; exact h
  unfold rhe
  split <;> omega
/-- without noughts at the end -/
def trimF : Nat → Nat → Int → Nat × Int
  | 0, n, e => (n, e)
  | f + 1, n, e => if n % 10 = 0 then trimF f (n / 10) (e + 1) else (n, e)
def pTrim (n : Nat) (e : Int) : Nat × Int := if n = 0 then (0, 0) else trimF n n e
theorem trimF_fuel : ∀ f g n e, 0 < n → n ≤ f → n ≤ g → trimF f n e = trimF g n e := by
  intro f
  induction f with
  | zero => intro g n e h0 h1 h2; omega
  | succ f ih =>
    intro g n e h0 h1 h2
    cases g with
    | zero => omega
    | succ g =>
      simp only [trimF]
      split
      · exact ih g (n / 10) (e + 1) (by omega) (by omega) (by omega)
      · rfl
theorem pTrim_step (n : Nat) (e : Int) (h0 : 0 < n) (h : n % 10 = 0) : pTrim n e = pTrim (n / 10) (e + 1) := by
  unfold pTrim
  rw [if_neg (by omega), if_neg (by omega)]
  obtain ⟨f, rfl⟩ : ∃ f, n = f + 1 := ⟨n - 1, by omega⟩
  rw [trimF, if_pos h]
  exact trimF_fuel _ _ _ _ (by omega) (by omega) (Nat.le_refl _)
theorem pTrim_stop (n : Nat) (e : Int) (h : n % 10 ≠ 0) : pTrim n e = (n, e) := by
  unfold pTrim
  have : n ≠ 0 := by intro h0; subst h0; simp at h
  rw [if_neg this]
  obtain ⟨f, rfl⟩ : ∃ f, n = f + 1 := ⟨n - 1, by omega⟩
  rw [trimF, if_neg h]
theorem pTrim_zero (e : Int) : pTrim 0 e = (0, 0) := rfl
/-- what trimming keeps -/
theorem pTrim_is (n : Nat) (e : Int) (h0 : 0 < n) : ∃ k : Nat, n = (pTrim n e).1 * 10 ^ k ∧ (pTrim n e).2 = e + k ∧ (pTrim n e).1 % 10 ≠ 0 ∧ dlen n = dlen (pTrim n e).1 + k := by
  have : ∀ f n e, 0 < n → n ≤ f → ∃ k : Nat, n = (pTrim n e).1 * 10 ^ k ∧ (pTrim n e).2 = e + k ∧ (pTrim n e).1 % 10 ≠ 0 ∧ dlen n = dlen (pTrim n e).1 + k := by
    intro f
    induction f with
    | zero => intro n e h0 h1; omega
    | succ f ih =>
      intro n e h0 h1
      by_cases hm : n % 10 = 0
      · rw [pTrim_step n e h0 hm]
        obtain ⟨k, h2, h3, h4, h5⟩ := ih (n / 10) (e + 1) (by omega) (by omega)
        refine ⟨k + 1, ?_, by rw [h3]; push_cast; omega, h4, ?_⟩
        · rw [Nat.pow_succ, ← Nat.mul_assoc, ← h2]; omega
        · have hd : dlen n = dlen (n / 10) + 1 := by
            have hp : 0 < n / 10 := by omega
            have a1 := dlen_pos _ hp
            have a2 := dlen_ge _ hp
            have a3 := dlen_lt (n / 10)
            refine dlen_eq (by omega) ?_ (by rw [Nat.pow_succ]; omega)
            rw [show dlen (n / 10) + 1 - 1 = (dlen (n / 10) - 1) + 1 by omega, Nat.pow_succ]
            omega
          omega
      · rw [pTrim_stop n e hm]
        exact ⟨0, by simp, by simp, hm, by simp⟩
  exact this n n e h0 (Nat.le_refl _)
/-- at most 15 digits -/
def near1 (n : Nat) (e : Int) : Nat × Int := if 15 < dlen n then (rhe n (dlen n - 15), e + ((dlen n - 15 : Nat) : Int)) else (n, e)
/-- no power below -40 -/
def near2 (n : Nat) (e : Int) : Nat × Int := if e < -40 then (rhe n (-40 - e).toNat, -40) else (n, e)
def nearEnd (neg : Bool) (n : Nat) (e : Int) : Option (Int × Int) :=
  if n = 0 then some (0, 0) else if 40 < (dlen n : Int) + e then none else some (if neg then -(n : Int) else n, e)
/-- a decimal, rounded -/
def pNear (neg : Bool) (n : Nat) (e : Int) : Option (Int × Int) :=
  nearEnd neg (pTrim (near2 (near1 n e).1 (near1 n e).2).1 (near2 (near1 n e).1 (near1 n e).2).2).1 (pTrim (near2 (near1 n e).1 (near1 n e).2).1 (near2 (near1 n e).1 (near1 n e).2).2).2
end Go.Proofs.YtcgdeoldgnjdeaaDoor
