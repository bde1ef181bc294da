/-
  Plain words: the order for sorting is one.
-/
import Derived.Test.YteccjdclkcipbaaDoorPlainC
import Derived.Test.YteccjdclkcipbaaDoorVal5
namespace Go.Proofs.YteccjdclkcipbaaDoor
open Go.RowKit

/-- how three things stand to one another, as in an order -/
structure O3 (xab xba xaa xbc xac : Int) : Prop where
  flip : xba = -xab
  self : xaa = 0
  l : xab = 0 → xbc = xac
  r : xbc = 0 → xab = xac
  t : xab = xbc → xab = xac
def lex2 (x y : Int) : Int := if x = 0 then y else x
theorem O3.lex {a1 b1 c1 d1 e1 a2 b2 c2 d2 e2 : Int} (h : O3 a1 b1 c1 d1 e1) (hf : a1 = 0 → b2 = -a2) (hs : c2 = 0) (h2 : a1 = 0 → d1 = 0 → O3 a2 b2 c2 d2 e2) : O3 (lex2 a1 a2) (lex2 b1 b2) (lex2 c1 c2) (lex2 d1 d2) (lex2 e1 e2) := by
  obtain ⟨p1, p2, p3, p4, p5⟩ := h
  by_cases ha : a1 = 0
  · have q := hf ha
    by_cases hd : d1 = 0
    · obtain ⟨q1, q2, q3, q4, q5⟩ := h2 ha hd
      have hb : b1 = 0 := by omega
      have he : e1 = 0 := by have := p3 ha; omega
      subst ha; subst hd; subst hb; subst he; subst p2
      exact ⟨q1, q2, q3, q4, q5⟩
    · have hb : b1 = 0 := by omega
      have he : d1 = e1 := p3 ha
      subst ha; subst hb; subst p2; subst he
      unfold lex2
      rw [if_neg hd, if_neg hd]
      simp only [if_true]
      exact ⟨q, hs, fun _ => rfl, fun h => absurd h hd, fun h => h⟩
  · have hb : b1 ≠ 0 := by omega
    subst p2
    unfold lex2
    rw [if_neg ha, if_neg hb]
    simp only [if_true]
    by_cases hd : d1 = 0
    · have he := p4 hd
      subst he
      rw [if_neg ha, if_pos hd]
      exact ⟨p1, hs, fun h => absurd h ha, fun _ => rfl, fun _ => rfl⟩
    · rw [if_neg hd]
      by_cases he : e1 = 0
      · refine ⟨p1, hs, fun h => absurd h ha, fun h => absurd h hd, fun h => ?_⟩
        have := p5 h
        omega
      · rw [if_neg he]
        exact ⟨p1, hs, fun h => absurd h ha, fun h => absurd h hd, p5⟩
theorem cmpN_o3 (a b c : Int) : O3 (cmpN a b) (cmpN b a) (cmpN a a) (cmpN b c) (cmpN a c) := by
  refine ⟨cmpN_flip a b, cmpN_self a, ?_, ?_, ?_⟩ <;> unfold cmpN <;> (repeat' split) <;> omega
theorem cmpB_cons (a b : UInt8) (x y : Bs) : cmpB (a :: x) (b :: y) = lex2 (cmpN a.toNat b.toNat) (cmpB x y) := by
  show (if a < b then (-1 : Int) else if b < a then 1 else cmpB x y) = _
  have e1 : a < b ↔ (a.toNat : Int) < (b.toNat : Int) := by rw [UInt8.lt_iff_toNat_lt]; omega
  have e2 : b < a ↔ (b.toNat : Int) < (a.toNat : Int) := by rw [UInt8.lt_iff_toNat_lt]; omega
  unfold lex2 cmpN
  by_cases h1 : a < b
  · rw [if_pos h1, if_pos (e1.1 h1)]; rfl
  · rw [if_neg h1, if_neg (fun h => h1 (e1.2 h))]
    by_cases h2 : b < a
    · rw [if_pos h2, if_pos (e2.1 h2)]; rfl
    · rw [if_neg h2, if_neg (fun h => h2 (e2.2 h))]; rfl
theorem cmpB_flip (x y : Bs) : cmpB y x = - cmpB x y := by
  induction x generalizing y with
  | nil => cases y <;> rfl
  | cons a x ih =>
    cases y with
    | nil => rfl
    | cons b y =>
      rw [cmpB_cons, cmpB_cons, ih y, cmpN_flip a.toNat b.toNat]
      unfold lex2
      by_cases h : cmpN a.toNat b.toNat = 0
      · rw [h]; simp
      · rw [if_neg h, if_neg (by omega)]
theorem cmpB_self (x : Bs) : cmpB x x = 0 := by
  have := cmpB_flip x x
  omega
theorem cmpB_o3 (x y z : Bs) : O3 (cmpB x y) (cmpB y x) (cmpB x x) (cmpB y z) (cmpB x z) := by
  induction x generalizing y z with
  | nil =>
    refine ⟨cmpB_flip _ _, rfl, ?_, ?_, ?_⟩ <;> cases y <;> cases z <;> simp [cmpB, Lib.compareBytes]
  | cons a x ih =>
    cases y with
    | nil =>
      refine ⟨cmpB_flip _ _, cmpB_self _, ?_, ?_, ?_⟩ <;> cases z <;> simp [cmpB, Lib.compareBytes]
    | cons b y =>
      cases z with
      | nil => exact ⟨cmpB_flip _ _, cmpB_self _, fun h => by simp [cmpB, Lib.compareBytes], fun h => by simp [cmpB, Lib.compareBytes] at h, fun h => h⟩
      | cons c z =>
        rw [cmpB_cons, cmpB_cons, cmpB_cons, cmpB_cons, cmpB_cons]
        exact (cmpN_o3 _ _ _).lex (fun _ => cmpB_flip x y) (cmpB_self x) (fun _ _ => ih y z)
def b2i (b : Bool) : Int := if b then 1 else 0
theorem truthOrder_key (a b : Bool) : pTruthOrder a b = cmpN (b2i a) (b2i b) := by cases a <;> cases b <;> rfl
theorem pCmpKind_flip (a b : Val) (h : a.kind = b.kind) (fa : Fit a) (fb : Fit b) : pCmpKind b a = - pCmpKind a b := by
  unfold pCmpKind
  rw [← h]
  split
  · rename_i h1
    rw [pCmp_eq _ _ _ _ (fa.num h1) (fb.num (by omega)), pCmp_eq _ _ _ _ (fb.num (by omega)) (fa.num h1)]
    exact cmpN_flip _ _
  · split
    · exact cmpB_flip _ _
    · split
      · rw [truthOrder_key, truthOrder_key]; exact cmpN_flip _ _
      · split
        · exact cmpN_flip _ _
        · rfl
theorem pCmpKind_self (a : Val) (fa : Fit a) : pCmpKind a a = 0 := by
  have := pCmpKind_flip a a rfl fa fa
  omega
theorem pCmpKind_o3 (a b c : Val) (h : a.kind = b.kind) (h' : b.kind = c.kind) (fa : Fit a) (fb : Fit b) (fc : Fit c) : O3 (pCmpKind a b) (pCmpKind b a) (pCmpKind a a) (pCmpKind b c) (pCmpKind a c) := by
  refine ⟨pCmpKind_flip a b h fa fb, pCmpKind_self a fa, ?_, ?_, ?_⟩
  all_goals
    unfold pCmpKind
    rw [← h]
    split
    · rename_i h1
      rw [pCmp_eq _ _ _ _ (fa.num h1) (fb.num (by omega)), pCmp_eq _ _ _ _ (fb.num (by omega)) (fc.num (by omega)), pCmp_eq _ _ _ _ (fa.num h1) (fc.num (by omega))]
      first | exact (cmpN_o3 _ _ _).l | exact (cmpN_o3 _ _ _).r | exact (cmpN_o3 _ _ _).t
    · split
      · first | exact (cmpB_o3 _ _ _).l | exact (cmpB_o3 _ _ _).r | exact (cmpB_o3 _ _ _).t
      · split
        · rw [truthOrder_key, truthOrder_key, truthOrder_key]
          first | exact (cmpN_o3 _ _ _).l | exact (cmpN_o3 _ _ _).r | exact (cmpN_o3 _ _ _).t
        · split
          · first | exact (cmpN_o3 _ _ _).l | exact (cmpN_o3 _ _ _).r | exact (cmpN_o3 _ _ _).t
          · exact fun _ => rfl
/-- the order for sorting -/
def pOrder (a b : Val) : Int := if a.kind = 0 ∧ b.kind = 0 then 0 else if a.kind = 0 then 1 else if b.kind = 0 then -1 else pCompare a b
theorem pCmp2_lex (a b : Val) : pCmp2 a b = lex2 (cmpN a.kind b.kind) (pCmpKind a b) := by
  unfold pCmp2 lex2 cmpN
  by_cases h : a.kind = b.kind
  · rw [if_neg (fun g => g h), h]; simp
  · rw [if_pos h]
    rcases Int.lt_or_gt_of_ne h with hl | hl
    · rw [if_pos hl, if_pos hl]; rfl
    · have hn : ¬ a.kind < b.kind := by omega
      rw [if_neg hn, if_neg hn, if_pos hl]; rfl
def blank (v : Val) : Int := if v.kind = 0 then 1 else 0
theorem pOrder_lex (a b : Val) : pOrder a b = lex2 (cmpN (blank a) (blank b)) (if a.kind = 0 then 0 else pCmp2 a b) := by
  unfold pOrder blank
  by_cases h1 : a.kind = 0 <;> by_cases h2 : b.kind = 0
  · simp [h1, h2, cmpN, lex2]
  · simp [h1, h2, cmpN, lex2]
  · simp [h1, h2, cmpN, lex2]
  · have e1 : pBeside a b = a := if_pos h1
    have e2 : pBeside b a = b := if_pos h2
    simp [h1, h2, cmpN, lex2, pCompare, e1, e2]
theorem pOrder_o3 (a b c : Val) (fa : Fit a) (fb : Fit b) (fc : Fit c) : O3 (pOrder a b) (pOrder b a) (pOrder a a) (pOrder b c) (pOrder a c) := by
  rw [pOrder_lex, pOrder_lex, pOrder_lex, pOrder_lex, pOrder_lex]
  have k2 : ∀ u v : Val, cmpN u.kind v.kind = 0 → u.kind = v.kind := by
    intro u v; unfold cmpN; split
    · omega
    · split <;> omega
  have flip2 : ∀ u v : Val, Fit u → Fit v → pCmp2 v u = - pCmp2 u v := by
    intro u v fu fv
    rw [pCmp2_lex, pCmp2_lex]
    unfold lex2
    by_cases h : cmpN u.kind v.kind = 0
    · have := cmpN_flip u.kind v.kind
      rw [if_pos h, if_pos (by omega)]
      exact pCmpKind_flip u v (k2 _ _ h) fu fv
    · have := cmpN_flip u.kind v.kind
      rw [if_neg h, if_neg (by omega)]
      exact this
  have bl : ∀ u v : Val, cmpN (blank u) (blank v) = 0 → (u.kind = 0 ↔ v.kind = 0) := by
    intro u v; unfold blank cmpN
    by_cases h1 : u.kind = 0 <;> by_cases h2 : v.kind = 0 <;> simp [h1, h2]
  refine (cmpN_o3 _ _ _).lex (fun h => ?_) ?_ (fun h h' => ?_)
  · have hb := bl a b h
    by_cases h0 : a.kind = 0
    · rw [if_pos h0, if_pos (hb.1 h0)]; rfl
    · rw [if_neg h0, if_neg (fun g => h0 (hb.2 g))]
      exact flip2 a b fa fb
  · by_cases h0 : a.kind = 0
    · rw [if_pos h0]
    · rw [if_neg h0]
      have := flip2 a a fa fa
      omega
  · have hb := bl a b h
    have hc := bl b c h'
    by_cases h0 : a.kind = 0
    · rw [if_pos h0, if_pos (hb.1 h0), if_pos h0, if_pos (hb.1 h0), if_pos h0]
      exact ⟨rfl, rfl, fun _ => rfl, fun _ => rfl, fun _ => rfl⟩
    · rw [if_neg h0, if_neg (fun g => h0 (hb.2 g)), if_neg h0, if_neg (fun g => h0 (hb.2 g)), if_neg h0, pCmp2_lex, pCmp2_lex, pCmp2_lex, pCmp2_lex, pCmp2_lex]
      refine (cmpN_o3 _ _ _).lex (fun g => pCmpKind_flip a b (k2 _ _ g) fa fb) (pCmpKind_self a fa) (fun g g' => pCmpKind_o3 a b c (k2 _ _ g) (k2 _ _ g') fa fb fc)
end Go.Proofs.YteccjdclkcipbaaDoor
