/-
  Plain words: the tokens of a text.
-/
import Derived.Test.YtcgdeoldgnjdeaaDoorLex7
namespace Go.Proofs.YtcgdeoldgnjdeaaDoor
open Go.RowKit

structure Tok where
  kind : Nat
  text : Bs
  place : Nat
theorem pWord_le (l : Bs) : (pWord l).2.2 ≤ l.length := by
  unfold pWord
  have := runP_le isWord l
  split
  · exact this
  · split
    · exact this
    · exact Nat.zero_le _
theorem pText_le (l : Bs) : ∀ x, pText l = some x → x.2 ≤ l.length ∧ x.1.length ≤ l.length := by
  have key : ∀ n (l : Bs), l.length ≤ n → ∀ x, pText l = some x → x.2 ≤ l.length ∧ x.1.length ≤ l.length := by
    intro n
    induction n with
    | zero => intro l hl x hx; cases l with
      | nil => simp [pText] at hx
      | cons c l => simp at hl
    | succ n ih =>
      intro l hl x hx
      match l, hl, hx with
      | [], _, hx => simp [pText] at hx
      | [c], _, hx =>
        simp only [pText] at hx
        split at hx
        · injection hx with hx; subst hx; simp
        · cases hx
      | c :: d :: l, hl, hx =>
        simp only [pText] at hx
        simp only [List.length_cons] at hl
        split at hx
        · split at hx
          · cases hy : pText l with
            | none => rw [hy] at hx; cases hx
            | some y =>
              rw [hy] at hx
              injection hx with hx
              have := ih l (by omega) y hy
              subst hx
              simp only [List.length_cons]
              omega
          · injection hx with hx; subst hx; simp
        · cases hy : pText (d :: l) with
          | none => rw [hy] at hx; cases hx
          | some y =>
            rw [hy] at hx
            injection hx with hx
            have := ih (d :: l) (by simp only [List.length_cons]; omega) y hy
            subst hx
            simp only [List.length_cons] at this ⊢
            omega
  exact key l.length l (Nat.le_refl _)
theorem pQuoted_le (l : Bs) : (pQuoted l).2.2 ≤ l.length := by
  unfold pQuoted
  cases h : pText (l.drop 1) with
  | none => exact Nat.zero_le _
  | some x =>
    have := (pText_le _ x h).1
    rw [List.length_drop] at this
    show x.2 + 1 ≤ l.length
    cases l with
    | nil => simp [pText] at h
    | cons c l => simp only [List.length_cons] at this ⊢; omega
theorem pFaultB_le (l : Bs) : (pFaultB l).length ≤ l.length := by
  unfold pFaultB
  cases h : pFault l with
  | none => simp
  | some k =>
    unfold pFault at h
    split at h
    · have := List.find?_some h
      unfold pFaultAt at this
      simp only [Bool.and_eq_true, decide_eq_true_eq] at this
      exact this.1
    · cases h
theorem pToken_le (l : Bs) (hp : 0 < l.length) : (pToken l).2.2 ≤ l.length := by
  unfold pToken
  split
  · exact pNumber_le l
  · split
    · exact pWord_le l
    · split
      · exact pQuoted_le l
      · split
        · exact pFaultB_le l
        · split
          · exact pSign_le l hp
          · exact Nat.zero_le _
/-- the tokens of what is left from a place on, or the place of what is none -/
def lexGo : Nat → Bs → Nat → Except Nat (List Tok)
  | 0, _, _ => .ok []
  | _ + 1, [], _ => .ok []
  | f + 1, c :: r, k =>
    if c = 32 then lexGo f r (k + 1)
    else if (pToken (c :: r)).2.2 = 0 then .error k
    else match lexGo f ((c :: r).drop (pToken (c :: r)).2.2) (k + (pToken (c :: r)).2.2) with
      | .error p => .error p
      | .ok ts => .ok (⟨(pToken (c :: r)).1, (pToken (c :: r)).2.1, k⟩ :: ts)
theorem lexGo_fuel : ∀ (f g : Nat) (l : Bs) (k : Nat), l.length ≤ f → l.length ≤ g → lexGo f l k = lexGo g l k := by
  intro f
  induction f with
  | zero =>
    intro g l k hf hg
    obtain rfl : l = [] := List.eq_nil_of_length_eq_zero (by omega)
    cases g <;> rfl
  | succ f ih =>
    intro g l k hf hg
    cases l with
    | nil => cases g <;> rfl
    | cons c r =>
      cases g with
      | zero => simp at hg
      | succ g =>
        simp only [List.length_cons] at hf hg
        simp only [lexGo]
        split
        · exact ih g r _ (by omega) (by omega)
        · split
          · rfl
          · rename_i h0
            rw [ih g _ _ (by rw [List.length_drop, List.length_cons]; omega) (by rw [List.length_drop, List.length_cons]; omega)]
def lexFrom (l : Bs) (k : Nat) : Except Nat (List Tok) := lexGo l.length l k
theorem lexFrom_nil (k : Nat) : lexFrom [] k = .ok [] := rfl
theorem lexFrom_blank (r : Bs) (k : Nat) : lexFrom (32 :: r) k = lexFrom r (k + 1) := by
  unfold lexFrom
  simp only [List.length_cons, lexGo]
  rfl
theorem lexFrom_bad (c : UInt8) (r : Bs) (k : Nat) (h : c ≠ 32) (h0 : (pToken (c :: r)).2.2 = 0) : lexFrom (c :: r) k = .error k := by
  unfold lexFrom
  simp only [List.length_cons, lexGo]
  rw [if_neg h, if_pos h0]
/-- one token ahead -/
def consTok (t : Tok) : Except Nat (List Tok) → Except Nat (List Tok)
  | .error p => .error p
  | .ok ts => .ok (t :: ts)
theorem lexFrom_tok (c : UInt8) (r : Bs) (k : Nat) (h : c ≠ 32) (h0 : (pToken (c :: r)).2.2 ≠ 0) :
    lexFrom (c :: r) k = consTok ⟨(pToken (c :: r)).1, (pToken (c :: r)).2.1, k⟩ (lexFrom ((c :: r).drop (pToken (c :: r)).2.2) (k + (pToken (c :: r)).2.2)) := by
  unfold lexFrom
  simp only [List.length_cons]
  rw [lexGo, if_neg h, if_neg h0]
  rw [lexGo_fuel r.length ((c :: r).drop (pToken (c :: r)).2.2).length _ _ (by rw [List.length_drop, List.length_cons]; omega) (Nat.le_refl _)]
  cases lexGo ((c :: r).drop (pToken (c :: r)).2.2).length ((c :: r).drop (pToken (c :: r)).2.2) (k + (pToken (c :: r)).2.2) <;> rfl
def pLex (l : Bs) : Except Nat (List Tok) := lexFrom l 0
/-- tokens ahead -/
def appTok (a : List Tok) : Except Nat (List Tok) → Except Nat (List Tok)
  | .error p => .error p
  | .ok ts => .ok (a ++ ts)
theorem appTok_cons (a : List Tok) (t : Tok) (x : Except Nat (List Tok)) : appTok a (consTok t x) = appTok (a ++ [t]) x := by
  cases x with
  | error p => rfl
  | ok ts => simp [appTok, consTok]
/-- how far Lex has come -/
def LInv (l : Bs) (a : List Tok) (k : Nat) : Prop := k ≤ l.length ∧ a.length ≤ k ∧ pLex l = appTok a (lexFrom (l.drop k) k)
theorem LInv.start (l : Bs) : LInv l [] 0 := by
  refine ⟨Nat.zero_le _, Nat.le_refl _, ?_⟩
  unfold pLex
  rw [List.drop_zero]
  cases lexFrom l 0 <;> rfl
theorem LInv.blank {l : Bs} {a : List Tok} {k : Nat} (h : LInv l a k) (hb : atIs l k 32 = true) : LInv l a (k + 1) := by
  have hlt := at_lt _ _ _ hb
  refine ⟨hlt, by have := h.2.1; omega, ?_⟩
  have e : l[k] = 32 := by
    unfold atIs at hb
    rw [List.getElem?_eq_getElem hlt] at hb
    have := eq_of_beq hb
    injection this
  rw [h.2.2, List.drop_eq_getElem_cons hlt, e, lexFrom_blank]
theorem ne_of_at {l : Bs} {k : Nat} {c : UInt8} (hlt : k < l.length) (hb : atIs l k c = false) : l[k] ≠ c := by
  intro e
  unfold atIs at hb
  rw [List.getElem?_eq_getElem hlt, e] at hb
  simp at hb
theorem LInv.bad {l : Bs} {a : List Tok} {k : Nat} (h : LInv l a k) (hlt : k < l.length) (hb : atIs l k 32 = false) (h0 : (pToken (l.drop k)).2.2 = 0) : pLex l = .error k := by
  have e := List.drop_eq_getElem_cons hlt
  rw [h.2.2]
  rw [e] at h0 ⊢
  rw [lexFrom_bad _ _ _ (ne_of_at hlt hb) h0]
  rfl
theorem LInv.tok {l : Bs} {a : List Tok} {k : Nat} (h : LInv l a k) (hlt : k < l.length) (hb : atIs l k 32 = false) (h0 : (pToken (l.drop k)).2.2 ≠ 0) :
    LInv l (a ++ [⟨(pToken (l.drop k)).1, (pToken (l.drop k)).2.1, k⟩]) (k + (pToken (l.drop k)).2.2) := by
  have e := List.drop_eq_getElem_cons hlt
  have hle := pToken_le (l.drop k) (by rw [List.length_drop]; omega)
  rw [List.length_drop] at hle
  refine ⟨by omega, by have := h.2.1; simp; omega, ?_⟩
  rw [h.2.2, ← appTok_cons, ← List.drop_drop]
  rw [e] at h0 ⊢
  rw [lexFrom_tok _ _ _ (ne_of_at hlt hb) h0]
theorem LInv.done {l : Bs} {a : List Tok} {k : Nat} (h : LInv l a k) (hk : ¬ k < l.length) : pLex l = .ok a := by
  rw [h.2.2, List.drop_of_length_le (by omega), lexFrom_nil]
  simp [appTok]
def tokCells (t : Tok) : List Value := [.int .i64 t.kind, .string ⟨t.text.toArray⟩, .int .i64 t.place]
def rowCells (ts : List Tok) : List Value := ts.flatMap tokCells
theorem rowCells_snoc (ts : List Tok) (t : Tok) : rowCells (ts ++ [t]) = rowCells ts ++ tokCells t := by simp [rowCells]
/-- the last one -/
def endTok (n : Nat) : Tok := ⟨0, [], n⟩
end Go.Proofs.YtcgdeoldgnjdeaaDoor
