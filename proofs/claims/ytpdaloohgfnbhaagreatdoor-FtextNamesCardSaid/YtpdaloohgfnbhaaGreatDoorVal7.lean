/-
  value: Compare, Of, Text, Truth, Bad, Order, FaultOf, Read; the order is one.
-/
import Derived.Test.YtpdaloohgfnbhaaGreatDoorPl1
import Derived.Test.YtpdaloohgfnbhaaGreatDoorNum2
import Derived.Test.YtpdaloohgfnbhaaGreatDoorVal4
import Derived.Test.YtpdaloohgfnbhaaGreatDoorShelf
import Derived.Test.YtpdaloohgfnbhaaGreatDoorLex8
import Derived.Test.YtpdaloohgfnbhaaGreatDoorNum4
import Derived.Test.YtpdaloohgfnbhaaGreatDoorNum9
namespace Go.Proofs.YtpdaloohgfnbhaaGreatDoor
open Go.RowKit

theorem cmpN_flip (a b : Int) : cmpN b a = - cmpN a b := by
  unfold cmpN
  split <;> split <;> (try split) <;> omega
theorem cmpN_self (a : Int) : cmpN a a = 0 := by unfold cmpN; simp
theorem cmpN_neg (a b : Int) : cmpN (-a) (-b) = cmpN b a := by
  unfold cmpN
  split <;> split <;> (try split) <;> (try split) <;> omega
theorem cmpN_lt {a b : Int} (h : a < b) : cmpN a b = -1 := if_pos h
theorem cmpN_gt {a b : Int} (h : b < a) : cmpN a b = 1 := by unfold cmpN; rw [if_neg (by omega), if_pos h]
theorem cmpN_mul (a b : Nat) (k : Nat) (hk : 0 < k) : cmpN ((a * k : Nat) : Int) ((b * k : Nat) : Int) = cmpN a b := by
  rcases Nat.lt_trichotomy a b with h | h | h
  · have h1 : a * k < b * k := Nat.mul_lt_mul_of_pos_right h hk
    rw [cmpN_lt (by omega), cmpN_lt (by omega)]
  · rw [h, cmpN_self, cmpN_self]
  · have h1 : b * k < a * k := Nat.mul_lt_mul_of_pos_right h hk
    rw [cmpN_gt (by omega), cmpN_gt (by omega)]
/-- a number, 40 powers of ten up -/
def vN (x : Nat) (e : Int) : Nat := x * 10 ^ (e + 40).toNat
def vNum (m e : Int) : Int := if m < 0 then -(vN m.natAbs e : Int) else vN m.natAbs e
theorem vN_pos {x : Nat} {e : Int} (h : 0 < x) : 0 < vN x e := Nat.mul_pos h (Nat.pow_pos (by decide))
theorem vN_lt (x : Nat) (e : Int) (h : x < 1000000000000000) (he : -40 ≤ e) : vN x e < 10 ^ ((digs x : Int) + e + 40).toNat := by
  have h1 := digs_lt x h
  have h2 : ((digs x : Int) + e + 40).toNat = digs x + (e + 40).toNat := by omega
  unfold vN
  rw [h2, Nat.pow_add]
  exact Nat.mul_lt_mul_of_pos_right h1 (Nat.pow_pos (by decide))
theorem vN_ge (x : Nat) (e : Int) (h : 0 < x) (he : -40 ≤ e) : 10 ^ ((digs x : Int) + e + 39).toNat ≤ vN x e := by
  have h1 := digs_ge x h
  have h3 := digs_le x
  have h2 : ((digs x : Int) + e + 39).toNat = (digs x - 1) + (e + 40).toNat := by omega
  unfold vN
  rw [h2, Nat.pow_add]
  exact Nat.mul_le_mul_right _ h1
theorem vN_norm (x : Nat) (e : Int) (h : x < 1000000000000000) (he : -40 ≤ e) : vN x e * 10 ^ 15 = norm x * 10 ^ ((digs x : Int) + e + 40).toNat := by
  have h1 := digs_15 x h
  have h2 : ((digs x : Int) + e + 40).toNat = digs x + (e + 40).toNat := by omega
  have h3 : 15 = (15 - digs x) + digs x := by omega
  unfold vN norm p10
  rw [h2]
  conv => lhs; rw [h3]
  rw [Nat.pow_add, Nat.pow_add, Nat.mul_assoc, Nat.mul_assoc]
  congr 1
  rw [← Nat.mul_assoc, Nat.mul_comm (10 ^ (e + 40).toNat), Nat.mul_assoc]
  congr 1
  exact Nat.mul_comm _ _
theorem pCmpSize_eq (m1 e1 m2 e2 : Int) (h1 : pRight m1 e1 = true) (h2 : pRight m2 e2 = true) (z1 : m1 ≠ 0) (z2 : m2 ≠ 0) :
    pCmpSize m1 e1 m2 e2 = cmpN (vN m1.natAbs e1) (vN m2.natAbs e2) := by
  obtain ⟨a1, a2, a3, a4, a5⟩ := pRight_of h1 z1
  obtain ⟨b1, b2, b3, b4, b5⟩ := pRight_of h2 z2
  unfold pCmpSize
  rw [if_neg z1]
  have p1 : 0 < m1.natAbs := by omega
  have p2 : 0 < m2.natAbs := by omega
  have l1 := vN_lt _ e1 a1 a3
  have l2 := vN_lt _ e2 b1 b3
  have g1 := vN_ge _ e1 p1 a3
  have g2 := vN_ge _ e2 p2 b3
  have n1 := vN_norm _ e1 a1 a3
  have n2 := vN_norm _ e2 b1 b3
  have d1 := digs_le m1.natAbs
  have d2 := digs_le m2.natAbs
  generalize m1.natAbs = x at *
  generalize m2.natAbs = y at *
  generalize digs x = dx at *
  generalize digs y = dy at *
  split
  · rename_i h
    rw [h] at n1
    rw [← cmpN_mul (vN x e1) (vN y e2) (10 ^ 15) (by decide), n1, n2, cmpN_mul _ _ _ (Nat.pow_pos (by decide))]
  · rename_i h
    rcases Int.lt_or_gt_of_ne h with hl | hl
    · have : 10 ^ ((dx : Int) + e1 + 40).toNat ≤ 10 ^ ((dy : Int) + e2 + 39).toNat := Nat.pow_le_pow_right (by decide) (by omega)
      rw [cmpN_lt hl, cmpN_lt (by omega)]
    · have : 10 ^ ((dy : Int) + e2 + 40).toNat ≤ 10 ^ ((dx : Int) + e1 + 39).toNat := Nat.pow_le_pow_right (by decide) (by omega)
      rw [cmpN_gt hl, cmpN_gt (by omega)]
theorem vNum_zero (e : Int) : vNum 0 e = 0 := by simp [vNum, vN]
theorem vNum_neg {m e : Int} (h : m < 0) : vNum m e < 0 := by
  unfold vNum
  rw [if_pos h]
  have := vN_pos (x := m.natAbs) (e := e) (by omega)
  omega
theorem vNum_pos {m e : Int} (h : 0 < m) : 0 < vNum m e := by
  unfold vNum
  rw [if_neg (by omega)]
  have := vN_pos (x := m.natAbs) (e := e) (by omega)
  omega
theorem sgn_neg {m : Int} (h : m < 0) : sgn m = -1 := if_pos h
theorem sgn_pos {m : Int} (h : 0 < m) : sgn m = 1 := by unfold sgn; rw [if_neg (by omega), if_pos h]
theorem pCmp_eq (m1 e1 m2 e2 : Int) (h1 : pRight m1 e1 = true) (h2 : pRight m2 e2 = true) : pCmp m1 e1 m2 e2 = cmpN (vNum m1 e1) (vNum m2 e2) := by
  unfold pCmp
  rw [if_pos ⟨h1, h2⟩]
  rcases Int.lt_trichotomy m1 0 with a | a | a <;> rcases Int.lt_trichotomy m2 0 with b | b | b
  · rw [sgn_neg a, sgn_neg b, if_pos rfl, pCmpSize_eq m1 e1 m2 e2 h1 h2 (by omega) (by omega)]
    unfold vNum
    rw [if_pos a, if_pos b, cmpN_neg, cmpN_flip]
    omega
  · subst b
    rw [sgn_neg a, vNum_zero, cmpN_lt (vNum_neg a)]
    rfl
  · rw [sgn_neg a, sgn_pos b, cmpN_lt (a := vNum m1 e1) (b := vNum m2 e2) (by have := vNum_neg (e := e1) a; have := vNum_pos (e := e2) b; omega)]
    rfl
  · subst a
    rw [sgn_neg b, vNum_zero, cmpN_gt (vNum_neg b)]
    rfl
  · subst a; subst b
    rw [vNum_zero, vNum_zero, cmpN_self 0, if_pos rfl]
    simp [sgn]
  · subst a
    rw [sgn_pos b, vNum_zero, cmpN_lt (vNum_pos b)]
    rfl
  · rw [sgn_pos a, sgn_neg b, cmpN_gt (a := vNum m1 e1) (b := vNum m2 e2) (by have := vNum_pos (e := e1) a; have := vNum_neg (e := e2) b; omega)]
    rfl
  · subst b
    rw [sgn_pos a, vNum_zero, cmpN_gt (vNum_pos a)]
    rfl
  · rw [sgn_pos a, sgn_pos b, if_pos rfl, pCmpSize_eq m1 e1 m2 e2 h1 h2 (by omega) (by omega)]
    unfold vNum
    rw [if_neg (by omega), if_neg (by omega)]
    omega
def cmpB (x y : Bs) : Int := Lib.compareBytes x y
/-- two values of one kind -/
def pCmpKind (a b : Val) : Int :=
  if a.kind = 1 then pCmp a.mant a.exp b.mant b.exp else if a.kind = 2 then cmpB (pFold a.text) (pFold b.text) else if a.kind = 3 then pTruthOrder a.truth b.truth
  else if a.kind = 4 then cmpN a.fault b.fault else 0
def pCmp2 (a b : Val) : Int := if a.kind ≠ b.kind then (if a.kind < b.kind then -1 else 1) else pCmpKind a b
def pCompare (a b : Val) : Int := pCmp2 (pBeside a b) (pBeside b a)
/-- a value that Compare can look at -/
structure Fit (v : Val) : Prop where
  m1 : -9223372036854775808 ≤ v.mant
  m2 : v.mant ≤ 9223372036854775807
  num : v.kind = 1 → pRight v.mant v.exp = true
  len : v.text.length ≤ maxLen
theorem Fit.beside {v u : Val} (h : Fit v) : Fit (pBeside v u) := by
  unfold pBeside
  split
  · exact h
  · split
    · exact ⟨by show (-9223372036854775808 : Int) ≤ 0; decide, by show (0 : Int) ≤ 9223372036854775807; decide, fun _ => (by decide : pRight 0 0 = true), Nat.zero_le _⟩
    · exact h
/-- two texts in two boxes -/
def TwoText (w : World) (t1 t2 : Bs) (w' : World) : Prop :=
  w.heap.size + 1 < w'.heap.size ∧ w'.cell? ⟨w.heap.size, 3, none⟩ = some (.string ⟨t1.toArray⟩) ∧ w'.cell? ⟨w.heap.size + 1, 3, none⟩ = some (.string ⟨t2.toArray⟩) ∧ Below w.heap.size w w'
theorem TwoText.next {w w' w'' : World} {t1 t2 : Bs} (h : TwoText w t1 t2 w') (hb : Below w'.heap.size w' w'') : TwoText w t1 t2 w'' := by
  obtain ⟨h1, h2, h3, h6⟩ := h
  have hs := hb.size
  exact ⟨by omega, (hb.cell (p := ⟨_, _, none⟩) (by show w.heap.size < _; omega)).trans h2, (hb.cell (p := ⟨_, _, none⟩) (by show w.heap.size + 1 < _; omega)).trans h3, h6.trans (hb.mono h6.size)⟩
theorem TwoText.drew {w w' : World} {t1 t2 : Bs} (h : TwoText w t1 t2 w') : TwoText w t1 t2 w'.drew := ⟨h.1, h.2.1, h.2.2.1, h.2.2.2.drew⟩
/-- how three things stand to one another, as in an order -/
structure O3 (xab xba xaa xbc xac : Int) : Prop where
  flip : xba = -xab
  self : xaa = 0
  l : xab = 0 → xbc = xac
  r : xbc = 0 → xab = xac
  t : xab = xbc → xab = xac
def lex2 (x y : Int) : Int := if x = 0 then y else x
theorem O3.lex {a1 b1 c1 d1 e1 a2 b2 c2 d2 e2 : Int} (h : O3 a1 b1 c1 d1 e1) (hf : a1 = 0 → b2 = -a2) (hs : c2 = 0) (h2 : a1 = 0 → d1 = 0 → O3 a2 b2 c2 d2 e2) : O3 (lex2 a1 a2) (lex2 b1 b2) (lex2 c1 c2) (lex2 d1 d2) (lex2 e1 e2) := by
  obtain ⟨p1, p2, p3, p4, p5⟩ := h
  by_cases ha : a1 = 0
  · have q := hf ha
    by_cases hd : d1 = 0
    · obtain ⟨q1, q2, q3, q4, q5⟩ := h2 ha hd
      have hb : b1 = 0 := by omega
      have he : e1 = 0 := by have := p3 ha; omega
      subst ha; subst hd; subst hb; subst he; subst p2
      exact ⟨q1, q2, q3, q4, q5⟩
    · have hb : b1 = 0 := by omega
      have he : d1 = e1 := p3 ha
      subst ha; subst hb; subst p2; subst he
      unfold lex2
      rw [if_neg hd, if_neg hd]
      simp only [if_true]
      exact ⟨q, hs, fun _ => rfl, fun h => absurd h hd, fun h => h⟩
  · have hb : b1 ≠ 0 := by omega
    subst p2
    unfold lex2
    rw [if_neg ha, if_neg hb]
    simp only [if_true]
    by_cases hd : d1 = 0
    · have he := p4 hd
      subst he
      rw [if_neg ha, if_pos hd]
      exact ⟨p1, hs, fun h => absurd h ha, fun _ => rfl, fun _ => rfl⟩
    · rw [if_neg hd]
      by_cases he : e1 = 0
      · refine ⟨p1, hs, fun h => absurd h ha, fun h => absurd h hd, fun h => ?_⟩
        have := p5 h
        omega
      · rw [if_neg he]
        exact ⟨p1, hs, fun h => absurd h ha, fun h => absurd h hd, p5⟩
theorem cmpN_o3 (a b c : Int) : O3 (cmpN a b) (cmpN b a) (cmpN a a) (cmpN b c) (cmpN a c) := by
  refine ⟨cmpN_flip a b, cmpN_self a, ?_, ?_, ?_⟩ <;> unfold cmpN <;> (repeat' split) <;> omega
theorem cmpB_cons (a b : UInt8) (x y : Bs) : cmpB (a :: x) (b :: y) = lex2 (cmpN a.toNat b.toNat) (cmpB x y) := by
  show (if a < b then (-1 : Int) else if b < a then 1 else cmpB x y) = _
  have e1 : a < b ↔ (a.toNat : Int) < (b.toNat : Int) := by rw [UInt8.lt_iff_toNat_lt]; omega
  have e2 : b < a ↔ (b.toNat : Int) < (a.toNat : Int) := by rw [UInt8.lt_iff_toNat_lt]; omega
  unfold lex2 cmpN
  by_cases h1 : a < b
  · rw [if_pos h1, if_pos (e1.1 h1)]; rfl
  · rw [if_neg h1, if_neg (fun h => h1 (e1.2 h))]
    by_cases h2 : b < a
    · rw [if_pos h2, if_pos (e2.1 h2)]; rfl
    · rw [if_neg h2, if_neg (fun h => h2 (e2.2 h))]; rfl
theorem cmpB_flip (x y : Bs) : cmpB y x = - cmpB x y := by
  induction x generalizing y with
  | nil => cases y <;> rfl
  | cons a x ih =>
    cases y with
    | nil => rfl
    | cons b y =>
      rw [cmpB_cons, cmpB_cons, ih y, cmpN_flip a.toNat b.toNat]
      unfold lex2
      by_cases h : cmpN a.toNat b.toNat = 0
      · rw [h]; simp
      · rw [if_neg h, if_neg (by omega)]
theorem cmpB_self (x : Bs) : cmpB x x = 0 := by
  have := cmpB_flip x x
  omega
theorem cmpB_o3 (x y z : Bs) : O3 (cmpB x y) (cmpB y x) (cmpB x x) (cmpB y z) (cmpB x z) := by
  induction x generalizing y z with
  | nil =>
    refine ⟨cmpB_flip _ _, rfl, ?_, ?_, ?_⟩ <;> cases y <;> cases z <;> simp [cmpB, Lib.compareBytes]
  | cons a x ih =>
    cases y with
    | nil =>
      refine ⟨cmpB_flip _ _, cmpB_self _, ?_, ?_, ?_⟩ <;> cases z <;> simp [cmpB, Lib.compareBytes]
    | cons b y =>
      cases z with
      | nil => exact ⟨cmpB_flip _ _, cmpB_self _, fun h => by simp [cmpB, Lib.compareBytes], fun h => by simp [cmpB, Lib.compareBytes] at h, fun h => h⟩
      | cons c z =>
        rw [cmpB_cons, cmpB_cons, cmpB_cons, cmpB_cons, cmpB_cons]
        exact (cmpN_o3 _ _ _).lex (fun _ => cmpB_flip x y) (cmpB_self x) (fun _ _ => ih y z)
def b2i (b : Bool) : Int := if b then 1 else 0
theorem truthOrder_key (a b : Bool) : pTruthOrder a b = cmpN (b2i a) (b2i b) := by cases a <;> cases b <;> rfl
theorem pCmpKind_flip (a b : Val) (h : a.kind = b.kind) (fa : Fit a) (fb : Fit b) : pCmpKind b a = - pCmpKind a b := by
  unfold pCmpKind
  rw [← h]
  split
  · rename_i h1
    rw [pCmp_eq _ _ _ _ (fa.num h1) (fb.num (by omega)), pCmp_eq _ _ _ _ (fb.num (by omega)) (fa.num h1)]
    exact cmpN_flip _ _
  · split
    · exact cmpB_flip _ _
    · split
      · rw [truthOrder_key, truthOrder_key]; exact cmpN_flip _ _
      · split
        · exact cmpN_flip _ _
        · rfl
theorem pCmpKind_self (a : Val) (fa : Fit a) : pCmpKind a a = 0 := by
  have := pCmpKind_flip a a rfl fa fa
  omega
theorem pCmpKind_o3 (a b c : Val) (h : a.kind = b.kind) (h' : b.kind = c.kind) (fa : Fit a) (fb : Fit b) (fc : Fit c) : O3 (pCmpKind a b) (pCmpKind b a) (pCmpKind a a) (pCmpKind b c) (pCmpKind a c) := by
  refine ⟨pCmpKind_flip a b h fa fb, pCmpKind_self a fa, ?_, ?_, ?_⟩
  all_goals
    unfold pCmpKind
    rw [← h]
    split
    · rename_i h1
      rw [pCmp_eq _ _ _ _ (fa.num h1) (fb.num (by omega)), pCmp_eq _ _ _ _ (fb.num (by omega)) (fc.num (by omega)), pCmp_eq _ _ _ _ (fa.num h1) (fc.num (by omega))]
      first | exact (cmpN_o3 _ _ _).l | exact (cmpN_o3 _ _ _).r | exact (cmpN_o3 _ _ _).t
    · split
      · first | exact (cmpB_o3 _ _ _).l | exact (cmpB_o3 _ _ _).r | exact (cmpB_o3 _ _ _).t
      · split
        · rw [truthOrder_key, truthOrder_key, truthOrder_key]
          first | exact (cmpN_o3 _ _ _).l | exact (cmpN_o3 _ _ _).r | exact (cmpN_o3 _ _ _).t
        · split
          · first | exact (cmpN_o3 _ _ _).l | exact (cmpN_o3 _ _ _).r | exact (cmpN_o3 _ _ _).t
          · exact fun _ => rfl
/-- the order for sorting -/
def pOrder (a b : Val) : Int := if a.kind = 0 ∧ b.kind = 0 then 0 else if a.kind = 0 then 1 else if b.kind = 0 then -1 else pCompare a b
theorem pCmp2_lex (a b : Val) : pCmp2 a b = lex2 (cmpN a.kind b.kind) (pCmpKind a b) := by
  unfold pCmp2 lex2 cmpN
  by_cases h : a.kind = b.kind
  · rw [if_neg (fun g => g h), h]; simp
  · rw [if_pos h]
    rcases Int.lt_or_gt_of_ne h with hl | hl
    · rw [if_pos hl, if_pos hl]; rfl
    · have hn : ¬ a.kind < b.kind := by omega
      rw [if_neg hn, if_neg hn, if_pos hl]; rfl
def blank (v : Val) : Int := if v.kind = 0 then 1 else 0
theorem pOrder_lex (a b : Val) : pOrder a b = lex2 (cmpN (blank a) (blank b)) (if a.kind = 0 then 0 else pCmp2 a b) := by
  unfold pOrder blank
  by_cases h1 : a.kind = 0 <;> by_cases h2 : b.kind = 0
  · simp [h1, h2, cmpN, lex2]
  · simp [h1, h2, cmpN, lex2]
  · simp [h1, h2, cmpN, lex2]
  · have e1 : pBeside a b = a := if_pos h1
    have e2 : pBeside b a = b := if_pos h2
    simp [h1, h2, cmpN, lex2, pCompare, e1, e2]
theorem pOrder_o3 (a b c : Val) (fa : Fit a) (fb : Fit b) (fc : Fit c) : O3 (pOrder a b) (pOrder b a) (pOrder a a) (pOrder b c) (pOrder a c) := by
  rw [pOrder_lex, pOrder_lex, pOrder_lex, pOrder_lex, pOrder_lex]
  have k2 : ∀ u v : Val, cmpN u.kind v.kind = 0 → u.kind = v.kind := by
    intro u v; unfold cmpN; split
    · omega
    · split <;> omega
  have flip2 : ∀ u v : Val, Fit u → Fit v → pCmp2 v u = - pCmp2 u v := by
    intro u v fu fv
    rw [pCmp2_lex, pCmp2_lex]
    unfold lex2
    by_cases h : cmpN u.kind v.kind = 0
    · have := cmpN_flip u.kind v.kind
      rw [if_pos h, if_pos (by omega)]
      exact pCmpKind_flip u v (k2 _ _ h) fu fv
    · have := cmpN_flip u.kind v.kind
      rw [if_neg h, if_neg (by omega)]
      exact this
  have bl : ∀ u v : Val, cmpN (blank u) (blank v) = 0 → (u.kind = 0 ↔ v.kind = 0) := by
    intro u v; unfold blank cmpN
    by_cases h1 : u.kind = 0 <;> by_cases h2 : v.kind = 0 <;> simp [h1, h2]
  refine (cmpN_o3 _ _ _).lex (fun h => ?_) ?_ (fun h h' => ?_)
  · have hb := bl a b h
    by_cases h0 : a.kind = 0
    · rw [if_pos h0, if_pos (hb.1 h0)]; rfl
    · rw [if_neg h0, if_neg (fun g => h0 (hb.2 g))]
      exact flip2 a b fa fb
  · by_cases h0 : a.kind = 0
    · rw [if_pos h0]
    · rw [if_neg h0]
      have := flip2 a a fa fa
      omega
  · have hb := bl a b h
    have hc := bl b c h'
    by_cases h0 : a.kind = 0
    · rw [if_pos h0, if_pos (hb.1 h0), if_pos h0, if_pos (hb.1 h0), if_pos h0]
      exact ⟨rfl, rfl, fun _ => rfl, fun _ => rfl, fun _ => rfl⟩
    · rw [if_neg h0, if_neg (fun g => h0 (hb.2 g)), if_neg h0, if_neg (fun g => h0 (hb.2 g)), if_neg h0, pCmp2_lex, pCmp2_lex, pCmp2_lex, pCmp2_lex, pCmp2_lex]
      refine (cmpN_o3 _ _ _).lex (fun g => pCmpKind_flip a b (k2 _ _ g) fa fb) (pCmpKind_self a fa) (fun g g' => pCmpKind_o3 a b c (k2 _ _ g) (k2 _ _ g') fa fb fc)
def vNumber (m e : Int) : Val := ⟨1, m, e, [], false, 0⟩
def vBad (f : Int) : Val := ⟨4, 0, 0, [], false, if f < 1 ∨ 9 < f then 9 else f⟩
def vText (l : Bs) : Val := if 255 < l.length then vBad 2 else ⟨2, 0, 0, l, false, 0⟩
def vTruth (b : Bool) : Val := ⟨3, 0, 0, [], b, 0⟩
set_option maxHeartbeats 400000 in
theorem of_any (m e : Int) (w : World) :
    Calls Tryz.prog 78 #[numV m e] w fun x w' => x = .returned (valV (vNumber m e)) ∧ Below w.heap.size w w' := by
  go_enter Tryz.func78, Tryz.ntmps78
  go_wp2
  refine bodyPost_ret (v := .agg #[.int .i64 1, .int .i64 m, .int .i64 e, .string ⟨#[]⟩, .bool false, .int .i64 0]) (by simp [results, Tryz.results78, go_sem]) rfl ?_
  exact ⟨rfl, ((Below.refl _ w).alloc (Nat.le_refl _) _).alloc (by simp) _⟩
set_option maxHeartbeats 400000 in
theorem truth_any (b : Bool) (w : World) :
    Calls Tryz.prog 77 #[.bool b] w fun x w' => x = .returned (valV (vTruth b)) ∧ Below w.heap.size w w' := by
  go_enter Tryz.func77, Tryz.ntmps77
  go_wp2
  refine bodyPost_ret (v := .agg #[.int .i64 3, .int .i64 0, .int .i64 0, .string ⟨#[]⟩, .bool b, .int .i64 0]) (by simp [results, Tryz.results77, go_sem]) rfl ?_
  exact ⟨rfl, (Below.refl _ w).alloc (Nat.le_refl _) _⟩
set_option maxHeartbeats 800000 in
theorem bad_any (f : Int) (w : World) :
    Calls Tryz.prog 49 #[.int .i64 f] w fun x w' => x = .returned (valV (vBad f)) ∧ Below w.heap.size w w' := by
  have hN : vBad f = ⟨4, 0, 0, [], false, if f < 1 ∨ 9 < f then 9 else f⟩ := rfl
  have HN := Lib.hid hN
  clear hN
  generalize vBad f = r at *
  by_cases h1 : f < 1
  · rw [if_pos (.inl h1)] at HN
    go_enter Tryz.func49, Tryz.ntmps49
    go_wp2
    refine bodyPost_ret (v := .agg #[.int .i64 4, .int .i64 0, .int .i64 0, .string ⟨#[]⟩, .bool false, .int .i64 9]) (by simp [results, Tryz.results49, go_sem]) rfl ?_
    exact ⟨by rw [HN.out], (Below.refl _ w).alloc (Nat.le_refl _) _⟩
  by_cases h2 : 9 < f
  · rw [if_pos (.inr h2)] at HN
    go_enter Tryz.func49, Tryz.ntmps49
    go_wp2
    refine bodyPost_ret (v := .agg #[.int .i64 4, .int .i64 0, .int .i64 0, .string ⟨#[]⟩, .bool false, .int .i64 9]) (by simp [results, Tryz.results49, go_sem]) rfl ?_
    exact ⟨by rw [HN.out], (Below.refl _ w).alloc (Nat.le_refl _) _⟩
  rw [if_neg (by omega)] at HN
  go_enter Tryz.func49, Tryz.ntmps49
  go_wp2
  refine bodyPost_ret (v := .agg #[.int .i64 4, .int .i64 0, .int .i64 0, .string ⟨#[]⟩, .bool false, .int .i64 f]) (by simp [results, Tryz.results49, go_sem]) rfl ?_
  exact ⟨by rw [HN.out], (Below.refl _ w).alloc (Nat.le_refl _) _⟩
/-- a block that holds a zero value, still to be written -/
theorem Lies.six {w : World} {R : Nat} (h : Lies w R 35 (valC zeroVal)) : w.cell? ⟨R, 0, none⟩ = some (.int .i64 0) ∧ w.cell? ⟨R, 1, none⟩ = some (.int .i64 0) ∧ w.cell? ⟨R, 2, none⟩ = some (.int .i64 0) ∧ w.cell? ⟨R, 3, none⟩ = some (.string ⟨#[]⟩) ∧ w.cell? ⟨R, 4, none⟩ = some (.bool false) ∧ w.cell? ⟨R, 5, none⟩ = some (.int .i64 0) ∧
    w.frozen? ⟨R, 0, none⟩ = false ∧ w.frozen? ⟨R, 1, none⟩ = false ∧ w.frozen? ⟨R, 2, none⟩ = false ∧ w.frozen? ⟨R, 3, none⟩ = false ∧ w.frozen? ⟨R, 4, none⟩ = false ∧ w.frozen? ⟨R, 5, none⟩ = false :=
  ⟨h.cell 0, h.cell 1, h.cell 2, h.cell 3, h.cell 4, h.cell 5, h.frozen 0, h.frozen 1, h.frozen 2, h.frozen 3, h.frozen 4, h.frozen 5⟩
theorem Lies.next {w w' : World} {g : Nat} {t : TypeId} {cs : Array Value} (h : Lies w g t cs) (hb : Below w.heap.size w w') : Lies w' g t cs := (hb.block g h.lt).trans h
set_option maxHeartbeats 800000 in
theorem text_any (l : Bs) (w : World) (hl : l.length ≤ 1000000) :
    Calls Tryz.prog 65 #[.string ⟨l.toArray⟩] w fun x w' => x = .returned (valV (vText l)) ∧ Below w.heap.size w w' := by
  have hN : vText l = if 255 < l.length then vBad 2 else ⟨2, 0, 0, l, false, 0⟩ := rfl
  have HN := Lib.hid hN
  clear hN
  generalize vText l = r at *
  by_cases h1 : 255 < l.length
  · rw [if_pos h1] at HN
    have hL := Lib.hid (Lies.new w 35 (valC zeroVal))
    have HB := Lib.hid ((Below.refl _ w).alloc (Nat.le_refl _) (.cells (valC zeroVal) 35))
    go_enter Tryz.func65, Tryz.ntmps65
    go_wp2_with fail
    refine (bad_any 2 _).mono ?_
    rintro e w1 ⟨rfl, hb⟩
    obtain ⟨z0, z1, z2, z3, z4, z5, y0, y1, y2, y3, y4, y5⟩ := (hL.out.next hb).six
    have HB1 : Hid (Below w.heap.size w w1) := Lib.hid (HB.out.trans (hb.mono HB.out.size))
    clear hb
    unfold vBad
    go_wp2_with fail
    refine bodyPost_ret (v := .agg #[.int .i64 4, .int .i64 0, .int .i64 0, .string ⟨#[]⟩, .bool false, .int .i64 2]) (by simp [results, Tryz.results65, go_sem, z0, z1, z2, z3, z4, z5]) rfl ?_
    exact ⟨by rw [HN.out]; rfl, put6_below ⟨4, 0, 0, [], false, 2⟩ HB1.out (Nat.le_refl _)⟩
  · rw [if_neg h1] at HN
    go_enter Tryz.func65, Tryz.ntmps65
    go_wp2_with fail
    refine bodyPost_ret (v := .agg #[.int .i64 2, .int .i64 0, .int .i64 0, .string ⟨l.toArray⟩, .bool false, .int .i64 0]) (by simp [results, Tryz.results65, go_sem]) rfl ?_
    exact ⟨by rw [HN.out], (Below.refl _ w).alloc (Nat.le_refl _) _⟩
def pFaultNo (l : Bs) : Nat := ((List.range' 1 9).find? fun k => pFold l == faultB k).getD 0
def yesB : Bs := [84, 82, 85, 69]
def noB : Bs := [70, 65, 76, 83, 69]
def vWord (l : Bs) : Val := if pFold l == yesB then vTruth true else if pFold l == noB then vTruth false else if pFaultNo l ≠ 0 then vBad (pFaultNo l) else vText l
def vRead (l : Bs) : Val := if l = [] then zeroVal else match pParse l with | some q => vNumber q.1 q.2 | none => vWord l
end Go.Proofs.YtpdaloohgfnbhaaGreatDoor
