/-
  Plain words: a number's text, read byte by byte, and read by its parts.
-/
import Derived.Test.YtcgdeoldgnjdeaaDoorPlain1
import Derived.Test.YtcgdeoldgnjdeaaDoorPlainR
namespace Go.Proofs.YtcgdeoldgnjdeaaDoor
open Go.RowKit

def digL (l : Bs) : List Nat := l.map fun c => c.toNat - 48
theorem digL_append (a b : Bs) : digL (a ++ b) = digL a ++ digL b := by simp [digL]
theorem digL_len (a : Bs) : (digL a).length = a.length := by simp [digL]
theorem isDigit_iff (c : UInt8) : isDigit c = true ↔ 48 ≤ c.toNat ∧ c.toNat ≤ 57 := by simp [isDigit]
theorem digL_dig (l : Bs) (n : Nat) (h : n ≤ runP isDigit l) : Dig (digL (l.take n)) := by
  intro d hd
  unfold digL at hd
  rw [List.mem_map] at hd
  obtain ⟨c, hc, rfl⟩ := hd
  obtain ⟨k, hk, rfl⟩ := List.getElem_of_mem hc
  rw [List.length_take] at hk
  rw [List.getElem_take]
  have := (isDigit_iff _).1 (runP_lt isDigit l k (by omega) (by omega))
  omega
/-- a reader of a number's text -/
structure Rd where
  st : Nat
  neg : Bool
  negPow : Bool
  ds : List Nat
  behind : Nat
  pow : Nat
def rd0 : Rd := ⟨0, false, false, [], 0, 0⟩
def powStep (p d : Nat) : Nat := if p < 100000 then p * 10 + d else p
def Rd.digit (r : Rd) (d : Nat) : Rd :=
  if r.st ≤ 2 then { r with st := 2, ds := r.ds ++ [d] }
  else if r.st ≤ 4 then { r with st := 4, ds := r.ds ++ [d], behind := r.behind + 1 }
  else { r with st := 7, pow := powStep r.pow d }
def Rd.take (r : Rd) (c : Nat) : Option Rd :=
  if 48 ≤ c ∧ c ≤ 57 then some (r.digit (c - 48))
  else if c = 45 ∧ r.st = 0 then some { r with neg := true, st := 1 }
  else if c = 46 ∧ r.st ≤ 2 then some { r with st := 3 }
  else if (c = 101 ∨ c = 69) ∧ (r.st = 2 ∨ r.st = 4) then some { r with st := 5 }
  else if (c = 45 ∨ c = 43) ∧ r.st = 5 then some { r with negPow := decide (c = 45), st := 6 }
  else none
def Rd.all : Rd → Bs → Option Rd
  | r, [] => some r
  | r, c :: l => match r.take c.toNat with | some r' => r'.all l | none => none
/-- what a reader that came to the end tells: sign, digits, how many behind the point, the power's sign, the power -/
def Rd.fin (r : Rd) : Option (Bool × List Nat × Nat × Bool × Nat) := if r.st = 2 ∨ r.st = 4 ∨ r.st = 7 then some (r.neg, r.ds, r.behind, r.negPow, r.pow) else none
def Rd.digits (r : Rd) (l : List Nat) : Rd := l.foldl Rd.digit r
theorem all_run (r : Rd) (l : Bs) : r.all l = (r.digits (digL (l.take (runP isDigit l)))).all (l.drop (runP isDigit l)) := by
  induction l generalizing r with
  | nil => rfl
  | cons c l ih =>
    by_cases h : isDigit c = true
    · have e : runP isDigit (c :: l) = runP isDigit l + 1 := by simp [runP, h]
      rw [e]
      simp only [List.take_succ_cons, List.drop_succ_cons]
      have hc := (isDigit_iff c).1 h
      show (match r.take c.toNat with | some r' => r'.all l | none => none) = _
      have ht : r.take c.toNat = some (r.digit (c.toNat - 48)) := if_pos hc
      rw [ht]
      exact ih _
    · have e : runP isDigit (c :: l) = 0 := by simp [runP, h]
      rw [e]
      rfl
theorem digits_whole (L : List Nat) (r : Rd) (h : r.st ≤ 2) (hL : L ≠ []) : r.digits L = { r with st := 2, ds := r.ds ++ L } := by
  induction L generalizing r with
  | nil => exact absurd rfl hL
  | cons d L ih =>
    have e : r.digit d = { r with st := 2, ds := r.ds ++ [d] } := if_pos h
    show (r.digit d).digits L = _
    rw [e]
    by_cases hl : L = []
    · rw [hl]; rfl
    · rw [ih _ (Nat.le_refl _) hl]
      simp
theorem digits_part (L : List Nat) (r : Rd) (h : r.st = 3 ∨ r.st = 4) (hL : L ≠ []) : r.digits L = { r with st := 4, ds := r.ds ++ L, behind := r.behind + L.length } := by
  induction L generalizing r with
  | nil => exact absurd rfl hL
  | cons d L ih =>
    have e : r.digit d = { r with st := 4, ds := r.ds ++ [d], behind := r.behind + 1 } := by
      unfold Rd.digit; rw [if_neg (by omega), if_pos (by omega)]
    show (r.digit d).digits L = _
    rw [e]
    by_cases hl : L = []
    · rw [hl]; rfl
    · rw [ih _ (.inr rfl) hl]
      simp
      omega
theorem digits_pow (L : List Nat) (r : Rd) (h : 5 ≤ r.st) (hL : L ≠ []) : r.digits L = { r with st := 7, pow := L.foldl powStep r.pow } := by
  induction L generalizing r with
  | nil => exact absurd rfl hL
  | cons d L ih =>
    have e : r.digit d = { r with st := 7, pow := powStep r.pow d } := by
      unfold Rd.digit; rw [if_neg (by omega), if_neg (by omega)]
    show (r.digit d).digits L = _
    rw [e]
    by_cases hl : L = []
    · rw [hl]; rfl
    · rw [ih _ (by show 5 ≤ 7; omega) hl]
      rfl
/-- a power's text: its sign, its digits -/
def pPowT (l : Bs) : Option (Bool × List Nat) :=
  match l with
  | [] => some (false, [])
  | c :: l => if c = 101 ∨ c = 69 then
      (let i := if atIs l 0 43 || atIs l 0 45 then 1 else 0
       if runP isDigit (l.drop i) = 0 ∨ i + runP isDigit (l.drop i) ≠ l.length then none else some (atIs l 0 45, digL (l.drop i)))
    else none
/-- a number's text: sign, digits, how many behind the point, the power -/
def pNumT (l : Bs) : Option (Bool × List Nat × Nat × Bool × List Nat) :=
  let i := if atIs l 0 45 then 1 else 0
  let a := runP isDigit (l.drop i)
  if atIs l (i + a) 46 then
    let b := runP isDigit (l.drop (i + a + 1))
    if b = 0 then none else (pPowT (l.drop (i + a + 1 + b))).map fun p => (atIs l 0 45, digL ((l.drop i).take a) ++ digL ((l.drop (i + a + 1)).take b), b, p.1, p.2)
  else if a = 0 then none else (pPowT (l.drop (i + a))).map fun p => (atIs l 0 45, digL ((l.drop i).take a), 0, p.1, p.2)
def powN (L : List Nat) : Nat := L.foldl powStep 0
/-- behind e: no sign any more -/
theorem pow_end (r : Rd) (l : Bs) (h : r.st = 5 ∨ r.st = 6) (h0 : r.pow = 0) (hs : r.st = 5 → ∀ c t, l = c :: t → c ≠ 43 ∧ c ≠ 45) :
    (r.all l).bind Rd.fin = if runP isDigit l = 0 ∨ runP isDigit l ≠ l.length then none else some (r.neg, r.ds, r.behind, r.negPow, powN (digL l)) := by
  have hle := runP_le isDigit l
  rw [all_run]
  by_cases hz : runP isDigit l = 0
  · rw [hz, if_pos (.inl rfl)]
    simp only [List.take_zero, List.drop_zero]
    show (r.all l).bind Rd.fin = none
    cases l with
    | nil => simp only [Rd.all, Option.bind_some]; unfold Rd.fin; rw [if_neg (by omega)]
    | cons c t =>
      have hd : isDigit c = false := by
        cases hc : isDigit c
        · rfl
        · simp [runP, hc] at hz
      have hn : ¬ (48 ≤ c.toNat ∧ c.toNat ≤ 57) := fun h => by rw [(isDigit_iff c).2 h] at hd; cases hd
      have ht : r.take c.toNat = none := by
        unfold Rd.take
        rw [if_neg hn, if_neg (by omega), if_neg (by omega), if_neg (by omega), if_neg ?_]
        rintro ⟨h1, h2⟩
        obtain ⟨h3, h4⟩ := hs h2 c t rfl
        rcases h1 with h1 | h1
        · exact h4 (u8_eq (by rw [h1]; rfl))
        · exact h3 (u8_eq (by rw [h1]; rfl))
      simp only [Rd.all, ht]
      rfl
  · have hne : digL (l.take (runP isDigit l)) ≠ [] := by
      intro h
      have := congrArg List.length h
      rw [digL_len, List.length_take] at this
      simp at this
      rcases this with h1 | h1
      · exact hz h1
      · rw [h1] at hz; exact hz rfl
    rw [digits_pow _ r (by omega) hne]
    by_cases hf : runP isDigit l = l.length
    · rw [if_neg (by omega), hf, List.drop_of_length_le (Nat.le_refl _), List.take_of_length_le (Nat.le_refl _)]
      simp only [Rd.all, Option.bind_some]
      unfold Rd.fin
      rw [if_pos (.inr (.inr rfl)), h0]
      rfl
    · rw [if_pos (.inr hf)]
      have hlt : runP isDigit l < l.length := by omega
      have hst := runP_stop isDigit l hlt
      rw [List.drop_eq_getElem_cons hlt]
      generalize l[runP isDigit l] = c at *
      have hn : ¬ (48 ≤ c.toNat ∧ c.toNat ≤ 57) := fun h => by rw [(isDigit_iff c).2 h] at hst; cases hst
      generalize hr : ({ r with st := 7, pow := _ } : Rd) = q
      have hq : q.st = 7 := by rw [← hr]
      have ht : q.take c.toNat = none := by
        unfold Rd.take
        rw [if_neg hn, if_neg (by omega), if_neg (by omega), if_neg (by omega), if_neg (by omega)]
      simp only [Rd.all, ht]
      rfl
/-- behind the digits -/
theorem pow_text (r : Rd) (l : Bs) (h : r.st = 2 ∨ r.st = 4) (h0 : r.pow = 0) (h1 : r.negPow = false) (hd : ∀ c t, l = c :: t → isDigit c = false ∧ (r.st = 2 → c ≠ 46)) :
    (r.all l).bind Rd.fin = (pPowT l).map fun p => (r.neg, r.ds, r.behind, p.1, powN p.2) := by
  cases l with
  | nil =>
    simp only [Rd.all, Option.bind_some]
    unfold Rd.fin pPowT
    rw [if_pos (by omega), h0, h1]
    rfl
  | cons c t =>
    obtain ⟨d1, d2⟩ := hd c t rfl
    have hn : ¬ (48 ≤ c.toNat ∧ c.toNat ≤ 57) := fun h => by rw [(isDigit_iff c).2 h] at d1; cases d1
    by_cases he : c = 101 ∨ c = 69
    · have ht : r.take c.toNat = some { r with st := 5 } := by
        have he' : c.toNat = 101 ∨ c.toNat = 69 := by rcases he with e | e <;> rw [e] <;> decide
        unfold Rd.take
        rw [if_neg hn, if_neg (by omega), if_neg (by omega), if_pos ⟨he', by omega⟩]
      simp only [Rd.all, ht]
      unfold pPowT
      simp only
      rw [if_pos he]
      cases t with
      | nil =>
        have := pow_end { r with st := 5 } [] (.inl rfl) h0 (fun _ c t h => by cases h)
        rw [this]
        rfl
      | cons x t =>
        have e43 : atIs (x :: t) 0 43 = (x == 43) := by unfold atIs; simp
        have e45 : atIs (x :: t) 0 45 = (x == 45) := by unfold atIs; simp
        rw [e43, e45]
        by_cases hx : x = 43 ∨ x = 45
        · have ht2 : ({ r with st := 5 } : Rd).take x.toNat = some { r with st := 6, negPow := (x == 45) } := by
            rcases hx with e | e <;> subst e <;> rfl
          have hb : (x == 43 || x == 45) = true := by rcases hx with e | e <;> subst e <;> rfl
          rw [hb]
          simp only [Rd.all, ht2, if_true, List.drop_succ_cons, List.drop_zero]
          rw [pow_end ⟨6, r.neg, (x == 45), r.ds, r.behind, r.pow⟩ t (.inr rfl) h0 (fun h => absurd h (by decide : ¬ (6 : Nat) = 5))]
          by_cases hk : runP isDigit t = 0 ∨ runP isDigit t ≠ t.length
          · rw [if_pos hk, if_pos (by simp only [List.length_cons]; omega)]
            rfl
          · rw [if_neg hk, if_neg (by simp only [List.length_cons]; omega)]
            rfl
        · have hb : (x == 43 || x == 45) = false := by
            rw [Bool.or_eq_false_iff, beq_eq_false_iff_ne, beq_eq_false_iff_ne]
            exact ⟨fun e => hx (.inl e), fun e => hx (.inr e)⟩
          have hb2 : (x == 45) = false := (Bool.or_eq_false_iff.1 hb).2
          rw [hb, hb2]
          simp only [Bool.false_eq_true, if_false, List.drop_zero, Nat.zero_add]
          rw [pow_end { r with st := 5 } (x :: t) (.inl rfl) h0 (fun _ c' t' h => by injection h with h1 h2; subst h1; exact ⟨fun e => hx (.inl e), fun e => hx (.inr e)⟩)]
          by_cases hk : runP isDigit (x :: t) = 0 ∨ runP isDigit (x :: t) ≠ (x :: t).length
          · rw [if_pos hk, if_pos hk]
            rfl
          · rw [if_neg hk, if_neg hk]
            simp only [Option.map_some]
            rw [h1]
    · have ht : r.take c.toNat = none := by
        unfold Rd.take
        rw [if_neg hn, if_neg (by omega), if_neg ?_, if_neg ?_, if_neg (by omega)]
        · rintro ⟨e, _⟩
          rcases e with e | e
          · exact he (.inl (u8_eq (by rw [e]; rfl)))
          · exact he (.inr (u8_eq (by rw [e]; rfl)))
        · rintro ⟨e, hst⟩
          exact d2 (by omega) (u8_eq (by rw [e]; rfl))
      simp only [Rd.all, ht]
      unfold pPowT
      simp only
      rw [if_neg he]
      rfl
theorem pPowT_map (l : Bs) (f g : Bool × List Nat → Bool × List Nat × Nat × Bool × Nat) (h : ∀ p, f p = g p) : (pPowT l).map f = (pPowT l).map g := by
  congr 1; funext p; exact h p
theorem drop_cons_at {l t : Bs} {n : Nat} {c : UInt8} (h : l.drop n = c :: t) (d : UInt8) : atIs l n d = (c == d) := by
  unfold atIs
  have : l[n]? = some c := by
    have := congrArg (fun x => x[0]?) h
    simpa using this
  rw [this]
  simp
/-- behind the sign -/
theorem num_text (r : Rd) (l : Bs) (hr : r = { rd0 with neg := r.neg, st := r.st }) (h : r.st ≤ 1) (hm : r.st = 0 → atIs l 0 45 = false) :
    (r.all l).bind Rd.fin = (if atIs l (runP isDigit l) 46 then
      (if runP isDigit (l.drop (runP isDigit l + 1)) = 0 then none else (pPowT (l.drop (runP isDigit l + 1 + runP isDigit (l.drop (runP isDigit l + 1))))).map fun p => (r.neg, digL (l.take (runP isDigit l)) ++ digL ((l.drop (runP isDigit l + 1)).take (runP isDigit (l.drop (runP isDigit l + 1)))), runP isDigit (l.drop (runP isDigit l + 1)), p.1, powN p.2))
    else if runP isDigit l = 0 then none else (pPowT (l.drop (runP isDigit l))).map fun p => (r.neg, digL (l.take (runP isDigit l)), 0, p.1, powN p.2)) := by
  have hle := runP_le isDigit l
  have h0 : r.pow = 0 := by rw [hr]; rfl
  have h1 : r.negPow = false := by rw [hr]; rfl
  have h2 : r.ds = [] := by rw [hr]; rfl
  have h3 : r.behind = 0 := by rw [hr]; rfl
  rw [all_run]
  have hstop : ∀ c t, l.drop (runP isDigit l) = c :: t → isDigit c = false := by
    intro c t e
    have hlt : runP isDigit l < l.length := by
      rcases Nat.lt_or_ge (runP isDigit l) l.length with g | g
      · exact g
      · rw [List.drop_of_length_le g] at e; cases e
    rw [List.drop_eq_getElem_cons hlt] at e
    injection e with e1 _
    rw [← e1]
    exact runP_stop isDigit l hlt
  have hlen : (digL (l.take (runP isDigit l))).length = runP isDigit l := by rw [digL_len, List.length_take]; omega
  generalize hn : runP isDigit l = n at *
  -- the digits ahead
  obtain ⟨q, hq, q1, q2, q3, q4, q5, q6, q7⟩ : ∃ q : Rd, r.digits (digL (l.take n)) = q ∧ q.st ≤ 2 ∧ (q.st = 2 ↔ n ≠ 0) ∧ q.neg = r.neg ∧ q.ds = digL (l.take n) ∧ q.behind = 0 ∧ q.pow = 0 ∧ q.negPow = false := by
    by_cases hz : n = 0
    · subst hz
      exact ⟨r, rfl, by omega, by constructor <;> intro g <;> omega, rfl, by rw [h2]; rfl, h3, h0, h1⟩
    · have hne : digL (l.take n) ≠ [] := by intro e; rw [e] at hlen; simp at hlen; omega
      refine ⟨_, digits_whole _ r (by omega) hne, Nat.le_refl _, ⟨fun _ => hz, fun _ => rfl⟩, rfl, ?_, h3, h0, h1⟩
      show r.ds ++ _ = _
      rw [h2]; rfl
  rw [hq]
  cases hd : l.drop n with
  | nil =>
    have hat : atIs l n 46 = false := at_out l n 46 (by
      have := congrArg List.length hd
      rw [List.length_drop] at this
      simp at this
      omega)
    rw [hat]
    simp only [Bool.false_eq_true, if_false, Rd.all, Option.bind_some]
    by_cases hz : n = 0
    · rw [if_pos hz]
      have : q.st ≠ 2 := fun g => (q2.1 g) hz
      unfold Rd.fin
      rw [if_neg (by omega)]
    · rw [if_neg hz]
      unfold Rd.fin pPowT
      rw [if_pos (.inl (q2.2 hz)), q3, q4, q5, q6, q7]
      rfl
  | cons c t =>
    have hc := hstop c t hd
    have hnd : ¬ (48 ≤ c.toNat ∧ c.toNat ≤ 57) := fun g => by rw [(isDigit_iff c).2 g] at hc; cases hc
    rw [drop_cons_at hd 46]
    by_cases h46 : c = 46
    · subst h46
      have ht : q.take (46 : UInt8).toNat = some { q with st := 3 } := by
        unfold Rd.take
        rw [if_neg (by decide), if_neg (by intro g; exact absurd g.1 (by decide)), if_pos ⟨rfl, q1⟩]
      have hdt : l.drop (n + 1) = t := by
        have : l.drop (n + 1) = (l.drop n).drop 1 := by rw [List.drop_drop]
        rw [this, hd]; rfl
      have hdb : ∀ b, l.drop (n + 1 + b) = t.drop b := by
        intro b
        rw [← List.drop_drop, hdt]
      simp only [Rd.all, ht, beq_self_eq_true, if_true]
      rw [hdt, hdb, all_run]
      have hlet := runP_le isDigit t
      by_cases hb : runP isDigit t = 0
      · rw [if_pos hb, hb]
        simp only [List.take_zero, List.drop_zero]
        show (Rd.all { q with st := 3 } t).bind Rd.fin = none
        cases t with
        | nil => rfl
        | cons x t =>
          have hx : isDigit x = false := by
            cases hx : isDigit x
            · rfl
            · simp [runP, hx] at hb
          have hxn : ¬ (48 ≤ x.toNat ∧ x.toNat ≤ 57) := fun g => by rw [(isDigit_iff x).2 g] at hx; cases hx
          have ht3 : ({ q with st := 3 } : Rd).take x.toNat = none := by
            unfold Rd.take
            simp only
            rw [if_neg hxn, if_neg (by omega), if_neg (by omega), if_neg (by omega), if_neg (by omega)]
          simp only [Rd.all, ht3]
          rfl
      · rw [if_neg hb]
        have hne : digL (t.take (runP isDigit t)) ≠ [] := by
          intro e
          have := congrArg List.length e
          rw [digL_len, List.length_take] at this
          simp only [List.length_nil] at this
          omega
        rw [digits_part _ { q with st := 3 } (.inl rfl) hne]
        have hlt2 : (digL (t.take (runP isDigit t))).length = runP isDigit t := by rw [digL_len, List.length_take]; omega
        rw [hlt2]
        refine (pow_text ⟨4, q.neg, q.negPow, q.ds ++ digL (t.take (runP isDigit t)), q.behind + runP isDigit t, q.pow⟩ (t.drop (runP isDigit t)) (.inr rfl) q6 q7 ?_).trans ?_
        rotate_left
        · simp only [q3, q4, q5, Nat.zero_add]
        · intro x t' e
          have hlt : runP isDigit t < t.length := by
            rcases Nat.lt_or_ge (runP isDigit t) t.length with g | g
            · exact g
            · rw [List.drop_of_length_le g] at e; cases e
          rw [List.drop_eq_getElem_cons hlt] at e
          injection e with e1 _
          rw [← e1]
          exact ⟨runP_stop isDigit t hlt, fun g => absurd g (by decide : ¬ (4 : Nat) = 2)⟩
    · have hb : (c == 46) = false := by rw [beq_eq_false_iff_ne]; exact h46
      rw [hb]
      simp only [Bool.false_eq_true, if_false]
      by_cases hz : n = 0
      · rw [if_pos hz]
        have hst : q.st ≠ 2 := fun g => (q2.1 g) hz
        have hqr : q = r := by rw [← hq, hz]; rfl
        have h45 : q.st = 0 → c ≠ 45 := by
          intro g e
          have hm' := hm (by rw [← hqr]; exact g)
          rw [hz] at hd
          rw [drop_cons_at hd 45, e] at hm'
          exact absurd hm' (by decide)
        have ht : q.take c.toNat = none := by
          unfold Rd.take
          rw [if_neg hnd, if_neg ?_, if_neg ?_, if_neg (by omega), if_neg (by omega)]
          · rintro ⟨e, _⟩
            exact h46 (u8_eq (by rw [e]; rfl))
          · rintro ⟨e, g⟩
            exact h45 g (u8_eq (by rw [e]; rfl))
        simp only [Rd.all, ht]
        rfl
      · rw [if_neg hz, pow_text q (c :: t) (.inl (q2.2 hz)) q6 q7 (fun x t' e => by injection e with e1 _; subst e1; exact ⟨hc, fun _ => h46⟩)]
        simp only [q3, q4, q5]
/-- A NUMBER's TEXT READ BYTE BY BYTE IS READ BY ITS PARTS -/
theorem all_text (l : Bs) : (rd0.all l).bind Rd.fin = (pNumT l).map fun p => (p.1, p.2.1, p.2.2.1, p.2.2.2.1, powN p.2.2.2.2) := by
  unfold pNumT
  cases h : atIs l 0 45
  · rw [num_text rd0 l rfl (by decide) (fun _ => h)]
    simp only [Bool.false_eq_true, if_false, List.drop_zero, Nat.zero_add]
    split
    · split
      · rfl
      · rw [Option.map_map]; rfl
    · split
      · rfl
      · rw [Option.map_map]; rfl
  · have hl : 0 < l.length := at_lt _ _ _ h
    cases l with
    | nil => simp at hl
    | cons c t =>
      have hc : c = 45 := by
        unfold atIs at h
        simpa using h
      subst hc
      have hall : rd0.all (45 :: t) = Rd.all ⟨1, true, false, [], 0, 0⟩ t := rfl
      have hat : ∀ n d, atIs (45 :: t) (1 + n) d = atIs t n d := by
        intro n d; unfold atIs; rw [Nat.add_comm]; rfl
      rw [hall, num_text ⟨1, true, false, [], 0, 0⟩ t rfl (by decide) (fun g => by cases g)]
      have hd : ∀ n, List.drop (1 + n) (45 :: t) = List.drop n t := by intro n; rw [Nat.add_comm]; rfl
      have e1 : ∀ a, 1 + a + 1 = 1 + (a + 1) := by intro a; omega
      have e2 : ∀ a b, 1 + (a + 1) + b = 1 + (a + 1 + b) := by intro a b; omega
      have hd1 : List.drop 1 (45 :: t) = t := rfl
      simp only [if_true, hd1, e1, e2, hd, hat]
      split
      · split
        · rfl
        · rw [Option.map_map]; rfl
      · split
        · rfl
        · rw [Option.map_map]; rfl
end Go.Proofs.YtcgdeoldgnjdeaaDoor
