/-
  lex: quoted, faultOf, token, Lex, and the plain words for them (merged: Lex6, PlainF, Lex7, PlainL, Lex8, PlainT).
-/
import Derived.Test.YtpdaloohgfnbhaaGreatDoorLex5
import Derived.Test.YtpdaloohgfnbhaaGreatDoorBuild1
import Derived.Test.YtpdaloohgfnbhaaGreatDoorPlainQ
import Derived.Test.YtpdaloohgfnbhaaGreatDoorVal2
namespace Go.Proofs.YtpdaloohgfnbhaaGreatDoor
open Go.RowKit

theorem find_first (p : Nat → Bool) (n k : Nat) (h1 : 1 ≤ k) (h2 : k < n + 1) (hk : p k = true) (h : ∀ j, 1 ≤ j → j < k → p j = false) : (List.range' 1 n).find? p = some k := by
  rw [List.find?_range'_eq_some]
  refine ⟨hk, by simp [List.mem_range'_1]; omega, fun j hj1 hj2 => by rw [h j hj1 hj2]; rfl⟩
theorem find_no (p : Nat → Bool) (n : Nat) (h : ∀ j, 1 ≤ j → j < n + 1 → p j = false) : (List.range' 1 n).find? p = none := by
  rw [List.find?_eq_none]
  intro j hj
  rw [List.mem_range'_1] at hj
  rw [h j hj.1 (by omega)]
  decide
def pFaultAt (l : Bs) (k : Nat) : Bool := decide ((faultB k).length ≤ l.length) && (pFold (l.take (faultB k).length) == faultB k)
def pFault (l : Bs) : Option Nat := if atIs l 0 35 then (List.range' 1 9).find? (pFaultAt l) else none
def pFaultB (l : Bs) : Bs := match pFault l with | some k => faultB k | none => []

def letter0 (l : Bs) : Bool := match l with | c :: _ => isLetter c | [] => false
theorem letter0_eq (l : Bs) (hp : 0 < l.length) : isLetter l[0] = letter0 l := by cases l with | nil => simp at hp | cons c l => rfl
/-- what a text that isn't empty begins with: kind, text, size; of size 0: none -/
def pToken (l : Bs) : Nat × Bs × Nat :=
  if 0 < pNumber l then (1, l.take (pNumber l), pNumber l)
  else if letter0 l || atIs l 0 95 || atIs l 0 36 then pWord l
  else if atIs l 0 34 then pQuoted l
  else if 0 < (pFaultB l).length then (6, pFaultB l, (pFaultB l).length)
  else if 0 < pSign l then (5, l.take (pSign l), pSign l)
  else (0, [], 0)
theorem pSign_le (l : Bs) (hp : 0 < l.length) : pSign l ≤ l.length := by
  unfold pSign
  split
  case isTrue h =>
    cases l with
    | nil => simp at hp
    | cons c l =>
      cases l with
      | nil => simp [Lib.hasPrefix, List.isPrefixOf] at h
      | cons d l => simp
  case isFalse => split <;> omega

structure Tok where
  kind : Nat
  text : Bs
  place : Nat
theorem pWord_le (l : Bs) : (pWord l).2.2 ≤ l.length := by
  unfold pWord
  have := runP_le isWord l
  split
  · exact this
  · split
    · exact this
    · exact Nat.zero_le _
theorem pText_le (l : Bs) : ∀ x, pText l = some x → x.2 ≤ l.length ∧ x.1.length ≤ l.length := by
  have key : ∀ n (l : Bs), l.length ≤ n → ∀ x, pText l = some x → x.2 ≤ l.length ∧ x.1.length ≤ l.length := by
    intro n
    induction n with
    | zero => intro l hl x hx; cases l with
      | nil => simp [pText] at hx
      | cons c l => simp at hl
    | succ n ih =>
      intro l hl x hx
      match l, hl, hx with
      | [], _, hx => simp [pText] at hx
      | [c], _, hx =>
        simp only [pText] at hx
        split at hx
        · injection hx with hx; subst hx; simp
        · cases hx
      | c :: d :: l, hl, hx =>
        simp only [pText] at hx
        simp only [List.length_cons] at hl
        split at hx
        · split at hx
          · cases hy : pText l with
            | none => rw [hy] at hx; cases hx
            | some y =>
              rw [hy] at hx
              injection hx with hx
              have := ih l (by omega) y hy
              subst hx
              simp only [List.length_cons]
              omega
          · injection hx with hx; subst hx; simp
        · cases hy : pText (d :: l) with
          | none => rw [hy] at hx; cases hx
          | some y =>
            rw [hy] at hx
            injection hx with hx
            have := ih (d :: l) (by simp only [List.length_cons]; omega) y hy
            subst hx
            simp only [List.length_cons] at this ⊢
            omega
  exact key l.length l (Nat.le_refl _)
theorem pQuoted_le (l : Bs) : (pQuoted l).2.2 ≤ l.length := by
  unfold pQuoted
  cases h : pText (l.drop 1) with
  | none => exact Nat.zero_le _
  | some x =>
    have := (pText_le _ x h).1
    rw [List.length_drop] at this
    show x.2 + 1 ≤ l.length
    cases l with
    | nil => simp [pText] at h
    | cons c l => simp only [List.length_cons] at this ⊢; omega
theorem pFaultB_le (l : Bs) : (pFaultB l).length ≤ l.length := by
  unfold pFaultB
  cases h : pFault l with
  | none => simp
  | some k =>
    unfold pFault at h
    split at h
    · have := List.find?_some h
      unfold pFaultAt at this
      simp only [Bool.and_eq_true, decide_eq_true_eq] at this
      exact this.1
    · cases h
theorem pToken_le (l : Bs) (hp : 0 < l.length) : (pToken l).2.2 ≤ l.length := by
  unfold pToken
  split
  · exact pNumber_le l
  · split
    · exact pWord_le l
    · split
      · exact pQuoted_le l
      · split
        · exact pFaultB_le l
        · split
          · exact pSign_le l hp
          · exact Nat.zero_le _
/-- the tokens of what is left from a place on, or the place of what is none -/
def lexGo : Nat → Bs → Nat → Except Nat (List Tok)
  | 0, _, _ => .ok []
  | _ + 1, [], _ => .ok []
  | f + 1, c :: r, k =>
    if c = 32 then lexGo f r (k + 1)
    else if (pToken (c :: r)).2.2 = 0 then .error k
    else match lexGo f ((c :: r).drop (pToken (c :: r)).2.2) (k + (pToken (c :: r)).2.2) with
      | .error p => .error p
      | .ok ts => .ok (⟨(pToken (c :: r)).1, (pToken (c :: r)).2.1, k⟩ :: ts)
theorem lexGo_fuel : ∀ (f g : Nat) (l : Bs) (k : Nat), l.length ≤ f → l.length ≤ g → lexGo f l k = lexGo g l k := by
  intro f
  induction f with
  | zero =>
    intro g l k hf hg
    obtain rfl : l = [] := List.eq_nil_of_length_eq_zero (by omega)
    cases g <;> rfl
  | succ f ih =>
    intro g l k hf hg
    cases l with
    | nil => cases g <;> rfl
    | cons c r =>
      cases g with
      | zero => simp at hg
      | succ g =>
        simp only [List.length_cons] at hf hg
        simp only [lexGo]
        split
        · exact ih g r _ (by omega) (by omega)
        · split
          · rfl
          · rename_i h0
            rw [ih g _ _ (by rw [List.length_drop, List.length_cons]; omega) (by rw [List.length_drop, List.length_cons]; omega)]
def lexFrom (l : Bs) (k : Nat) : Except Nat (List Tok) := lexGo l.length l k
theorem lexFrom_nil (k : Nat) : lexFrom [] k = .ok [] := rfl
theorem lexFrom_blank (r : Bs) (k : Nat) : lexFrom (32 :: r) k = lexFrom r (k + 1) := by
  unfold lexFrom
  simp only [List.length_cons, lexGo]
  rfl
theorem lexFrom_bad (c : UInt8) (r : Bs) (k : Nat) (h : c ≠ 32) (h0 : (pToken (c :: r)).2.2 = 0) : lexFrom (c :: r) k = .error k := by
  unfold lexFrom
  simp only [List.length_cons, lexGo]
  rw [if_neg h, if_pos h0]
/-- one token ahead -/
def consTok (t : Tok) : Except Nat (List Tok) → Except Nat (List Tok)
  | .error p => .error p
  | .ok ts => .ok (t :: ts)
theorem lexFrom_tok (c : UInt8) (r : Bs) (k : Nat) (h : c ≠ 32) (h0 : (pToken (c :: r)).2.2 ≠ 0) :
    lexFrom (c :: r) k = consTok ⟨(pToken (c :: r)).1, (pToken (c :: r)).2.1, k⟩ (lexFrom ((c :: r).drop (pToken (c :: r)).2.2) (k + (pToken (c :: r)).2.2)) := by
  unfold lexFrom
  simp only [List.length_cons]
  rw [lexGo, if_neg h, if_neg h0]
  rw [lexGo_fuel r.length ((c :: r).drop (pToken (c :: r)).2.2).length _ _ (by rw [List.length_drop, List.length_cons]; omega) (Nat.le_refl _)]
  cases lexGo ((c :: r).drop (pToken (c :: r)).2.2).length ((c :: r).drop (pToken (c :: r)).2.2) (k + (pToken (c :: r)).2.2) <;> rfl
def pLex (l : Bs) : Except Nat (List Tok) := lexFrom l 0
/-- tokens ahead -/
def appTok (a : List Tok) : Except Nat (List Tok) → Except Nat (List Tok)
  | .error p => .error p
  | .ok ts => .ok (a ++ ts)
theorem appTok_cons (a : List Tok) (t : Tok) (x : Except Nat (List Tok)) : appTok a (consTok t x) = appTok (a ++ [t]) x := by
  cases x with
  | error p => rfl
  | ok ts => simp [appTok, consTok]
/-- how far Lex has come -/
def LInv (l : Bs) (a : List Tok) (k : Nat) : Prop := k ≤ l.length ∧ a.length ≤ k ∧ pLex l = appTok a (lexFrom (l.drop k) k)
theorem LInv.start (l : Bs) : LInv l [] 0 := by
  refine ⟨Nat.zero_le _, Nat.le_refl _, ?_⟩
  unfold pLex
  rw [List.drop_zero]
  cases lexFrom l 0 <;> rfl
theorem LInv.blank {l : Bs} {a : List Tok} {k : Nat} (h : LInv l a k) (hb : atIs l k 32 = true) : LInv l a (k + 1) := by
  have hlt := at_lt _ _ _ hb
  refine ⟨hlt, by have := h.2.1; omega, ?_⟩
  have e : l[k] = 32 := by
    unfold atIs at hb
    rw [List.getElem?_eq_getElem hlt] at hb
    have := eq_of_beq hb
    injection this
  rw [h.2.2, List.drop_eq_getElem_cons hlt, e, lexFrom_blank]
theorem ne_of_at {l : Bs} {k : Nat} {c : UInt8} (hlt : k < l.length) (hb : atIs l k c = false) : l[k] ≠ c := by
  intro e
  unfold atIs at hb
  rw [List.getElem?_eq_getElem hlt, e] at hb
  simp at hb
theorem LInv.bad {l : Bs} {a : List Tok} {k : Nat} (h : LInv l a k) (hlt : k < l.length) (hb : atIs l k 32 = false) (h0 : (pToken (l.drop k)).2.2 = 0) : pLex l = .error k := by
  have e := List.drop_eq_getElem_cons hlt
  rw [h.2.2]
  rw [e] at h0 ⊢
  rw [lexFrom_bad _ _ _ (ne_of_at hlt hb) h0]
  rfl
theorem LInv.tok {l : Bs} {a : List Tok} {k : Nat} (h : LInv l a k) (hlt : k < l.length) (hb : atIs l k 32 = false) (h0 : (pToken (l.drop k)).2.2 ≠ 0) :
    LInv l (a ++ [⟨(pToken (l.drop k)).1, (pToken (l.drop k)).2.1, k⟩]) (k + (pToken (l.drop k)).2.2) := by
  have e := List.drop_eq_getElem_cons hlt
  have hle := pToken_le (l.drop k) (by rw [List.length_drop]; omega)
  rw [List.length_drop] at hle
  refine ⟨by omega, by have := h.2.1; simp; omega, ?_⟩
  rw [h.2.2, ← appTok_cons, ← List.drop_drop]
  rw [e] at h0 ⊢
  rw [lexFrom_tok _ _ _ (ne_of_at hlt hb) h0]
theorem LInv.done {l : Bs} {a : List Tok} {k : Nat} (h : LInv l a k) (hk : ¬ k < l.length) : pLex l = .ok a := by
  rw [h.2.2, List.drop_of_length_le (by omega), lexFrom_nil]
  simp [appTok]
def tokCells (t : Tok) : List Value := [.int .i64 t.kind, .string ⟨t.text.toArray⟩, .int .i64 t.place]
def rowCells (ts : List Tok) : List Value := ts.flatMap tokCells
theorem rowCells_snoc (ts : List Tok) (t : Tok) : rowCells (ts ++ [t]) = rowCells ts ++ tokCells t := by simp [rowCells]
/-- the last one -/
def endTok (n : Nat) : Tok := ⟨0, [], n⟩
theorem only_of_below {a w : World} (h : Below a.heap.size a w) (row : Option Nat) : a.grownBy w row := ⟨h.os, h.tape, h.output, h.size, fun i hi _ => h.block i hi⟩
theorem own_next {a w : World} (h : Below a.heap.size a w) {base : Nat} {e : TypeId} {size : Nat} {v : Value} {n : Nat} {xs : List Value} (ho : a.ownsRow base e size v n xs) : w.ownsRow base e size v n xs := by
  refine ho.kept (only_of_below h none) ?_
  cases hv : v.ownBlock with
  | none => exact .inl rfl
  | some k => exact .inr (by simp)
theorem tok_one (t : Tok) : ∀ u ∈ tokCells t, u.oneCell' = true := by
  intro u hu
  simp [tokCells] at hu
  rcases hu with rfl | rfl | rfl <;> rfl

def quoteB : Bs → Bs
  | [] => []
  | c :: l => if c = 34 then 34 :: 34 :: quoteB l else c :: quoteB l
theorem quoteB_app (a b : Bs) : quoteB (a ++ b) = quoteB a ++ quoteB b := by
  induction a with
  | nil => rfl
  | cons c a ih => simp only [List.cons_append, quoteB]; split <;> simp [ih]
theorem quoteB_len (a : Bs) : (quoteB a).length ≤ 2 * a.length := by
  induction a with
  | nil => simp [quoteB]
  | cons c a ih => simp only [quoteB]; split <;> simp only [List.length_cons] <;> omega
theorem pText_quote (b r : Bs) (h : ∀ x, r ≠ 34 :: x) : pText (quoteB b ++ 34 :: r) = some (b, (quoteB b).length + 1) := by
  induction b with
  | nil => exact pText_end r h
  | cons c b ih =>
    simp only [quoteB]
    split
    case isTrue e =>
      subst e
      rw [List.cons_append, List.cons_append, pText_two, ih]
      simp
    case isFalse e =>
      rw [List.cons_append, pText_other _ _ e, ih]
      simp
theorem pText_open (b : Bs) : pText (quoteB b) = none := by
  induction b with
  | nil => rfl
  | cons c b ih =>
    simp only [quoteB]
    split
    case isTrue e => rw [pText_two, ih]; rfl
    case isFalse e => rw [pText_other _ _ e, ih]; rfl
theorem runP_cons_no (p : UInt8 → Bool) (c : UInt8) (l : Bs) (h : p c = false) : runP p (c :: l) = 0 := by simp [runP, h]
theorem atIs_cons (c : UInt8) (l : Bs) (d : UInt8) : atIs (c :: l) 0 d = (c == d) := by
  unfold atIs
  simp
theorem pNumber_none (c : UInt8) (l : Bs) (h : isDigit c = false) (h46 : c ≠ 46) : pNumber (c :: l) = 0 := by
  have e : pNumA (c :: l) = 0 := by
    unfold pNumA
    rw [runP_cons_no _ _ _ h, atIs_cons]
    have : (c == 46) = false := by rw [beq_eq_false_iff_ne]; exact h46
    rw [this]
    rfl
  unfold pNumber pNumE
  rw [e]
  rfl
theorem pToken_quote (l : Bs) : pToken (34 :: l) = pQuoted (34 :: l) := by
  unfold pToken
  rw [pNumber_none 34 l rfl (by decide), if_neg (by omega)]
  simp only [atIs_cons]
  rfl
theorem pLex_quote (b : Bs) : pLex (34 :: (quoteB b ++ [34])) = .ok [⟨2, b, 0⟩] := by
  have e : pToken (34 :: (quoteB b ++ [34])) = (2, b, (quoteB b).length + 2) := by
    rw [pToken_quote]
    unfold pQuoted
    rw [List.drop_succ_cons, List.drop_zero, pText_quote b [] (by intro x h; cases h)]
  unfold pLex
  rw [lexFrom_tok _ _ _ (by decide) (by rw [e]; simp), e]
  simp only
  rw [List.drop_of_length_le (by simp), lexFrom_nil]
  rfl
theorem pLex_open (b : Bs) : pLex (34 :: quoteB b) = .error 0 := by
  have e : pToken (34 :: quoteB b) = (0, [], 0) := by
    rw [pToken_quote]
    unfold pQuoted
    rw [List.drop_succ_cons, List.drop_zero, pText_open]
  unfold pLex
  rw [lexFrom_bad _ _ _ (by decide) (by rw [e])]
end Go.Proofs.YtpdaloohgfnbhaaGreatDoor
