/-
  A law for a range over a function whose iterator lays memory; csv.lines' iterator by it.
-/
import Derived.RangeFuncNested
import Derived.RangeFuncBound
import Derived.RangeFuncCalls
import Derived.RangeFuncLeaves
import Derived.Shelf.Abstract
import Derived.Shelf.RegionOpen
import Derived.WalkKit
import Derived.OwnWalkIn
import Derived.TacticsInMore
import Derived.LoopNIn
import Derived.LoopIn
import Derived.Lib.Hide
import Derived.Test.YteccjdclkcipbaaGreatDoorCsv2
namespace Go.Proofs.YteccjdclkcipbaaGreatDoor
open Go.RowKit

/-- the cells of which K speaks hold what they held -/
def KeepsAt (K : Addr → Prop) (W W' : World) : Prop := W.heap.size ≤ W'.heap.size ∧ (∀ p, K p → W'.cell? p = W.cell? p) ∧ ∀ p, K p → W'.frozen? p = W.frozen? p
theorem KeepsAt.refl (K : Addr → Prop) (W : World) : KeepsAt K W W := ⟨Nat.le_refl _, fun _ _ => rfl, fun _ _ => rfl⟩
theorem KeepsAt.trans {K : Addr → Prop} {A B C : World} (h1 : KeepsAt K A B) (h2 : KeepsAt K B C) : KeepsAt K A C := ⟨Nat.le_trans h1.1 h2.1, fun p h => (h2.2.1 p h).trans (h1.2.1 p h), fun p h => (h2.2.2 p h).trans (h1.2.2 p h)⟩
theorem KeepsAt.of {K : Addr → Prop} {b : Nat} {W W' : World} (h : Below b W W') (hK : ∀ p, K p → p.block < b) : KeepsAt K W W' := ⟨h.size, fun p hp => h.cell (p := p) (hK p hp), fun p hp => World.frozen?_of_block (h.block _ (hK p hp))⟩
/-- the cells that a round must leave alone: those of K, and those of the m blocks that the iterator lays first -/
def KAnd (K : Addr → Prop) (c m : Nat) (p : Addr) : Prop := K p ∨ (c ≤ p.block ∧ p.block < c + m)
/-- I abides what is laid, what is written of what is no cells, and the m blocks that the iterator lays first -/
def OwnTo {α : Type} (b c m : Nat) (I : List α → World → Prop) : Prop := ∀ s A B row, I s A → A.grownBy B row → (∀ r, row = some r → b ≤ r ∧ ((c ≤ r ∧ r < c + m) ∨ ∃ o : Obj, A.heap[r]? = some o ∧ o.isCells = false)) → I s B
/-- from block b on, what is no cells lies as it lay -/
def KeepsFar (b : Nat) (W W' : World) : Prop := W.heap.size ≤ W'.heap.size ∧ ∀ k o, b ≤ k → W.heap[k]? = some o → o.isCells = false → W'.heap[k]? = some o
theorem KeepsFar.of {W W' : World} (b : Nat) (h : KeepsOthers W W') : KeepsFar b W W' := ⟨h.size, fun k o _ => h.same k o⟩
theorem KeepsFar.trans {b : Nat} {A B C : World} (h1 : KeepsFar b A B) (h2 : KeepsFar b B C) : KeepsFar b A C := ⟨Nat.le_trans h1.1 h2.1, fun k o hk ho hc => h2.2 k o hk (h1.2 k o hk ho hc) hc⟩
theorem KeepsFar.mono {b c : Nat} {A B : World} (h : KeepsFar b A B) (hbc : b ≤ c) : KeepsFar c A B := ⟨h.1, fun k o hk => h.2 k o (by omega)⟩
theorem KeepsFar.grown {b : Nat} {A B : World} {row : Option Nat} (hg : A.grownBy B row) (hr : ∀ r, row = some r → r < b ∨ ∃ o : Obj, A.heap[r]? = some o ∧ o.isCells = true) : KeepsFar b A B := ⟨hg.size, fun k o hk ho hc => by
  refine (hg.block k (Array.getElem?_eq_some_iff.1 ho).1 (fun e => ?_)).trans ho
  rcases hr k e.symm with h | ⟨o', h1, h2⟩
  · omega
  · rw [h1] at ho; cases ho; rw [h2] at hc; cases hc⟩
/-- what an iterator promises: it keeps J and Jx, tells R of each x, and says S of all that came, Sp of what came where a round said 'no more' -/
def SeqR {α : Type} (F : Fence) (n : Nat) (P : Program) (g : Nat) (lb : Array Value) (encs : α → Array Value) (n₀ : Addr → Prop) (m : Nat) (R : List α → α → World → Prop) (S Sp : List α → Prop) (w : World) : Prop :=
  ∀ (l : Nat) (J Jx : List α → World → Prop) (W : World), Below w.heap.size w W → OwnTo W.heap.size W.heap.size m J → OwnTo W.heap.size W.heap.size m Jx →
    (∀ pre x W1, W.heap.size + m ≤ W1.heap.size → J pre W1 → R pre x W1 → YieldAt F (n - 1) P l (encs x) W1 fun e W' =>
      (e = .returned (.bool true) ∧ J (pre ++ [x]) W' ∧ KeepsAt (KAnd n₀ W.heap.size m) W1 W' ∧ KeepsFar W.heap.size W1 W') ∨ (e = .returned (.bool false) ∧ Jx (pre ++ [x]) W' ∧ KeepsFar W.heap.size W1 W')) →
    J [] W →
    CallsIn F n P g (#[.func (.yield l) #[] #[]] ++ lb) W fun e W' => (∃ v, e = .returned v) ∧ ((∃ xs, S xs ∧ J xs W') ∨ (∃ pre, Sp pre ∧ Jx pre W'))
/-- how a round's body may be left -/
def postR {α : Type} (b : Nat) (n₀ : Addr → Prop) (I : List α → World → Prop) (Ix : Code → List α → World → Prop) (xs : List α) (W : World) : Exit → Act → World → Prop
  | .normal, _, W' => KeepsFar b W W' ∧ KeepsAt n₀ W W' ∧ I xs W'
  | .ret, _, W' => KeepsFar b W W' ∧ Ix .ret xs W'
  | .exit id, _, W' => KeepsFar b W W' ∧ Ix (.exit id) xs W'
  | _, _, _ => False
/-- the loop's record in its three states -/
def recR (fn : FuncId) (tmps : Array Value) (ps : Array Tmp) (assign body : Code) (D : Nat) (st : LoopState) (pe : Option Code) : Obj := .loop { state := st, pending := pe, fn, tmps, params := ps, assign, body, defers := D }
section
variable {F : Fence} {n : Nat} {P : Program}
/-- the record and the block for deferred calls, in a world -/
structure Books (W : World) (b : Nat) (o : Obj) : Prop where
  loop : W.heap[b + 1]? = some o
  dfr : W.heap[b]? = some (.deferred (some []))
theorem Books.kept {W W' : World} {b : Nat} {o : Obj} (h : Books W b o) (ho : o.isCells = false) (hk : KeepsFar b W W') : Books W' b o := ⟨hk.2 _ _ (by omega) h.loop ho, hk.2 _ _ (by omega) h.dfr rfl⟩
theorem Books.grown {W W' : World} {b : Nat} {o : Obj} {row : Option Nat} (h : Books W b o) (ho : o.isWalk = false) (hg : W.grownBy W' row) (hr : ∀ r, row = some r → ∃ o : Obj, W.heap[r]? = some o ∧ o.isWalk = true) : Books W' b o :=
  ⟨(grownBy_keeps hg hr h.loop ho).trans h.loop, (grownBy_keeps hg hr h.dfr rfl).trans h.dfr⟩
theorem Books.far {W W' : World} {b : Nat} {o : Obj} {row : Option Nat} (h : Books W b o) (hg : W.grownBy W' row) (hr : ∀ r, row = some r → b + 1 < r) : Books W' b o := by
  have e1 := hg.block (b + 1) (Array.getElem?_eq_some_iff.1 h.loop).1 (fun e => by have := hr _ e.symm; omega)
  have e2 := hg.block b (Array.getElem?_eq_some_iff.1 h.dfr).1 (fun e => by have := hr _ e.symm; omega)
  exact ⟨e1.trans h.loop, e2.trans h.dfr⟩
theorem Books.put {W : World} {b : Nat} {o : Obj} (h : Books W b o) (o' : Obj) : Books (W.putObj (b + 1) o') b o' :=
  ⟨World.putObj_heap_same (Array.getElem?_eq_some_iff.1 h.loop).1, (World.putObj_heap_other (by omega)).trans h.dfr⟩
theorem below_put {n₀ : Addr → Prop} {b : Nat} {W : World} (hb : ∀ p, n₀ p → p.block ≠ b) (o' : Obj) : KeepsAt n₀ W (W.putObj b o') :=
  ⟨by rw [World.putObj_size]; exact Nat.le_refl _, fun p hp => World.cell?_of_block (World.putObj_heap_other (hb p hp)), fun p hp => World.frozen?_of_block (World.putObj_heap_other (hb p hp))⟩
theorem wpIn_rangeR {α : Type} {g : Operand} {ps : Array Tmp} {assign body : Code} {Q : Exit → Act → World → Prop} {a : Act} {w : World}
    (hro : F.round = none) (h1 : 1 ≤ n) {gf : Nat} {lb : Array Value} (hg : a.eval g = .func (.func gf) #[] lb) (hFg : F.fn gf) (eg : ∀ args w, (callFunc gf args).run P w = .ok (.enter gf args) w)
    {encs : α → Array Value} {n₀ : Addr → Prop} {m : Nat} {R : List α → α → World → Prop} {S Sp : List α → Prop} (hseq : SeqR F (n - 1) P gf lb encs n₀ m R S Sp w)
    (hn₀ : ∀ p, n₀ p → p.block < w.heap.size) (hR : ∀ pre, OwnFrom w.heap.size (R pre)) (hps : ∀ x, (encs x).size = ps.size)
    (I : List α → World → Prop) (Ix : Code → List α → World → Prop) (hI : OwnTo w.heap.size (w.heap.size + 2) m I) (hIx : ∀ c, OwnTo w.heap.size (w.heap.size + 2) m (Ix c)) (h0 : I [] w) (a₁ : α → Act)
    (hassign : ∀ (l : Nat) (x : α) (W : World) (K : Act → World → Prop), K (a₁ x) W →
      assign.wpIn (F.inRound l) (n - 1 - 1) P (Exit.then K (fun _ _ _ => False)) { tmps := (ps.zip (encs x)).foldl (fun t (p, v) => t.setIfInBounds p v) a.tmps, defers := [] } W)
    (hbody : ∀ (l : Nat) (pre : List α) (x : α) (W : World), w.heap.size + 2 + m ≤ W.heap.size → I pre W → R pre x W → body.wpIn (F.inRound l) (n - 1 - 1) P (postR w.heap.size (KAnd n₀ (w.heap.size + 2) m) I Ix (pre ++ [x]) W) (a₁ x) W)
    (hdone : ∀ (D : Nat) (xs : List α) (W : World), w.heap.size ≤ D → S xs → I xs W → W.heap[D]? = some (.deferred (some [])) → Q .normal { a with defers := { target := .collected D, args := #[] } :: a.defers } W)
    (hstop : ∀ (D : Nat) (c : Code) (pre : List α) (W : World), w.heap.size ≤ D → Sp pre → Ix c pre W → W.heap[D]? = some (.deferred (some [])) → c.wpIn F n P Q { a with defers := { target := .collected D, args := #[] } :: a.defers } W) :
    (Code.rangeFunc g ps assign body).wpIn F n P Q a w := by
  refine wpIn_rangeFunc fun fn hfn => ?_
  have hnot : ∀ st pe, (recR fn a.tmps ps assign body w.heap.size st pe).isCells = false ∧ (recR fn a.tmps ps assign body w.heap.size st pe).isWalk = false := fun _ _ => ⟨rfl, rfl⟩
  let rc := recR fn a.tmps ps assign body w.heap.size
  let W1 := (w.alloc (.deferred (some []))).alloc (rc .ready none)
  have hB1 : Books W1 w.heap.size (rc .ready none) := by
    refine ⟨?_, (Below.heap_alloc _ _ _ (by simp)).trans (World.alloc_heap_new w _)⟩
    have := World.alloc_heap_new (w.alloc (.deferred (some []))) (rc .ready none)
    rwa [World.size_alloc] at this
  have hbel : Below w.heap.size w W1 := ((Below.refl _ w).alloc (Nat.le_refl _) _).alloc (by simp) _
  have hsz : W1.heap.size = w.heap.size + 2 := by simp [W1]
  have hKA : ∀ p, KAnd n₀ (w.heap.size + 2) m p → p.block ≠ w.heap.size + 1 := fun p h => by
    rcases h with h | h
    · have := hn₀ p h; omega
    · omega
  have hfarI : ∀ {I' : List α → World → Prop}, OwnTo w.heap.size (w.heap.size + 2) m I' → ∀ {xs : List α} {A : World} (o' : Obj), I' xs A → ∀ {o : Obj}, A.heap[w.heap.size + 1]? = some o → o.isCells = false → I' xs (A.putObj (w.heap.size + 1) o') :=
    fun h xs A o' hi o hl ho => h xs A _ _ hi (grownBy_putObj' A _ o') (fun r e => by cases e; exact ⟨by omega, .inr ⟨o, hl, ho⟩⟩)
  have hrow : ∀ {A : World} {row : Option Nat}, (∀ r, row = some r → W1.heap.size ≤ r ∧ ((W1.heap.size ≤ r ∧ r < W1.heap.size + m) ∨ ∃ o : Obj, A.heap[r]? = some o ∧ o.isCells = false)) → (∀ r, row = some r → w.heap.size ≤ r ∧ ((w.heap.size + 2 ≤ r ∧ r < w.heap.size + 2 + m) ∨ ∃ o : Obj, A.heap[r]? = some o ∧ o.isCells = false)) :=
    fun hr r e => by
      obtain ⟨h2, h3⟩ := hr r e
      rw [hsz] at h2 h3
      exact ⟨by omega, h3⟩
  refine ⟨w.heap.size + 1, [{ target := .collected w.heap.size, args := #[] }], W1, { target := .fn (.func gf) lb, args := #[.func (.yield (w.heap.size + 1)) #[] #[]] }, W1, gf, #[.func (.yield (w.heap.size + 1)) #[] #[]] ++ lb, W1, ?_, ?_, ?_, ?_, fun _ => h1, ?_⟩
  · rw [hro]
    exact run_enterLoop_outer _ _ _ _ _
  · simp only [resolve, hg]
    simp [go_sem]
  · intro f' hf'
    simp [Target.leads] at hf'
    subst hf'
    exact hFg
  · simp [invoke, go_sem, eg]
  · refine (hseq (w.heap.size + 1) (fun pre W => I pre W ∧ Books W w.heap.size (rc .ready none)) (fun pre W => ∃ c, Ix c pre W ∧ Books W w.heap.size (rc .done (some c))) W1 hbel
      (fun s A B row hs hg' hr => ⟨hI s A B row hs.1 hg' (hrow hr), hs.2.far hg' (fun r e => by have := (hr r e).1; omega)⟩)
      (fun s A B row hs hg' hr => by
        obtain ⟨c, hc, hbk⟩ := hs
        exact ⟨c, hIx c s A B row hc hg' (hrow hr), hbk.far hg' (fun r e => by have := (hr r e).1; omega)⟩)
      ?_ ⟨hI [] _ _ none (hI [] _ _ none h0 (World.grownBy_alloc w _ none) (fun r e => by cases e)) (World.grownBy_alloc _ _ none) (fun r e => by cases e), hB1⟩).mono ?_
    · rintro pre x W hlt ⟨hi, hbk⟩ hx
      rw [hsz] at hlt ⊢
      have hy := run_yield (P := P) (args := encs x) hbk.loop (hps x)
      refine ⟨fn, _, assign, body, hy, roundIn_of_wpIn hfn (hassign _ x W _ ⟨_, run_beginRound hbk.loop rfl, ?_⟩)⟩
      have hbk2 : Books (W.putObj (w.heap.size + 1) (rc .busy none)) w.heap.size (rc .busy none) := hbk.put _
      have hf2 : ∀ (X : World) (o' : Obj), KeepsFar (w.heap.size + 2) X (X.putObj (w.heap.size + 1) o') := fun X o' => KeepsFar.grown (grownBy_putObj' X _ o') (fun r e => by cases e; exact .inl (by omega))
      have hk2 := below_put (W := W) (n₀ := KAnd n₀ (w.heap.size + 2) m) hKA (rc .busy none)
      refine wpIn_mono (hbody _ pre x _ (by rw [World.putObj_size]; exact hlt) (hfarI hI _ hi hbk.loop rfl) ((hR pre).putObj _ hx (by omega) hbk.loop rfl)) ?_
      intro e a3 W3 hp
      cases e with
      | normal =>
        obtain ⟨hk3, hb3, hi3⟩ := hp
        have hbk3 := hbk2.kept rfl hk3
        exact ⟨_, _, run_endRound none hbk3.loop, .inl ⟨rfl, ⟨hfarI hI _ hi3 hbk3.loop rfl, hbk3.put _⟩, (hk2.trans hb3).trans (below_put hKA _), ((hf2 _ _).trans (hk3.mono (by omega))).trans (hf2 _ _)⟩⟩
      | ret =>
        obtain ⟨hk3, hi3⟩ := hp
        have hbk3 := hbk2.kept rfl hk3
        exact ⟨_, _, run_endRound (some .ret) hbk3.loop, .inr ⟨rfl, ⟨.ret, hfarI (hIx _) _ hi3 hbk3.loop rfl, hbk3.put _⟩, ((hf2 _ _).trans (hk3.mono (by omega))).trans (hf2 _ _)⟩⟩
      | exit id =>
        obtain ⟨hk3, hi3⟩ := hp
        have hbk3 := hbk2.kept rfl hk3
        exact ⟨_, _, run_endRound (some (.exit id)) hbk3.loop, .inr ⟨rfl, ⟨.exit id, hfarI (hIx _) _ hi3 hbk3.loop rfl, hbk3.put _⟩, ((hf2 _ _).trans (hk3.mono (by omega))).trans (hf2 _ _)⟩⟩
      | goto t => exact hp.elim
      | panic ch => exact hp.elim
      | outgrown => exact hp.elim
    · rintro e W2 ⟨⟨v, rfl⟩, (⟨xs, hS, hi, hbk⟩ | ⟨pre, hSp, c, hi, hbk⟩)⟩
      · exact ⟨none, _, run_endLoop hbk.loop (by simp), hdone _ xs _ (Nat.le_refl _) hS (hfarI hI _ hi hbk.loop rfl) (hbk.put (o' := _)).dfr⟩
      · exact ⟨some c, _, run_endLoop hbk.loop (by simp), hstop _ c pre _ (Nat.le_refl _) hSp (hfarI (hIx c) _ hi hbk.loop rfl) (hbk.put (o' := _)).dfr⟩
end
open Go.RowKit Go.Shelf
attribute [local go_sem] Oper.semAt_some

theorem cLine_err (l : Bs) (ws : List Bs) : ∀ n, l.length ≤ n → (cLine l ws).2.2 ≠ 0 → (cLine l ws).1 = [] ∧ (cLine l ws).2.1 = [] := by
  intro n
  induction n generalizing l ws with
  | zero =>
    intro hl h
    obtain rfl := List.eq_nil_of_length_eq_zero (by omega : l.length = 0)
    rw [cLine_step, if_pos (by decide)]
    exact ⟨rfl, rfl⟩
  | succ n ih =>
    intro hl h
    obtain ⟨k1, k2⟩ := cField_ok l
    rw [cLine_step] at h ⊢
    by_cases h0 : (cField l).2.2 ≠ 0
    · rw [if_pos h0]; exact ⟨rfl, rfl⟩
    · rw [if_neg h0] at h ⊢
      obtain ⟨c, r, e, _⟩ := k2 (Decidable.not_not.1 h0)
      rw [e] at k1 h ⊢
      rw [List.length_cons] at k1
      by_cases h10 : atIs (c :: r) 0 10 = true
      · rw [if_pos h10] at h
        exact absurd rfl h
      · rw [if_neg h10] at h ⊢
        exact ih r _ (by omega) h
/-- what comes of a text: each line's words, and last, where one is wrong, its error -/
def cLinesF : Nat → Bs → List (List Bs × Int)
  | 0, _ => []
  | f + 1, l => if l = [] then [] else if (cLine l []).2.2 ≠ 0 then [([], (cLine l []).2.2)] else ((cLine l []).1, 0) :: cLinesF f (cLine l []).2.1
def cLines (l : Bs) : List (List Bs × Int) := cLinesF l.length l
theorem cLinesF_fuel : ∀ (f g : Nat) (l : Bs), l.length ≤ f → l.length ≤ g → cLinesF f l = cLinesF g l
  | 0, 0, l, _, _ => rfl
  | 0, g + 1, l, h, _ => by
    obtain rfl := List.eq_nil_of_length_eq_zero (by omega : l.length = 0)
    unfold cLinesF; rw [if_pos rfl]
  | f + 1, 0, l, _, h => by
    obtain rfl := List.eq_nil_of_length_eq_zero (by omega : l.length = 0)
    unfold cLinesF; rw [if_pos rfl]
  | f + 1, g + 1, l, h1, h2 => by
    unfold cLinesF
    split
    · rfl
    · split
      · rfl
      · rename_i _ h0
        have := (cLine_len l.length l [] (Nat.le_refl _) (Decidable.not_not.1 h0)).1
        rw [cLinesF_fuel f g _ (by omega) (by omega)]
theorem cLines_step (l : Bs) : cLines l = if l = [] then [] else if (cLine l []).2.2 ≠ 0 then [([], (cLine l []).2.2)] else ((cLine l []).1, 0) :: cLines (cLine l []).2.1 := by
  by_cases hl : l = []
  · subst hl; rw [if_pos rfl]; rfl
  · rw [if_neg hl]
    have hp : 0 < l.length := List.length_pos_iff.2 hl
    unfold cLines
    obtain ⟨f, hf⟩ : ∃ f, l.length = f + 1 := ⟨l.length - 1, by omega⟩
    rw [hf]
    conv => lhs; unfold cLinesF
    rw [if_neg hl]
    split
    · rfl
    · rename_i h0
      have := (cLine_len l.length l [] (Nat.le_refl _) (Decidable.not_not.1 h0)).1
      rw [cLinesF_fuel f (cLine l []).2.1.length _ (by omega) (Nat.le_refl _)]
/-- what a round is handed: the words' slice, the words, the error -/
structure LX where
  v : Value
  ws : List Bs
  er : Int
def LX.key (x : LX) : List Bs × Int := (x.ws, x.er)
def encsL (x : LX) : Array Value := #[x.v, .int .i64 x.er]
def RL (n₀ : Nat) (s : Bs) (pre : List LX) (x : LX) (W : World) : Prop := W.ownsRow n₀ 9 1 x.v x.ws.length (x.ws.map wordV) ∧ (pre ++ [x]).map LX.key <+: cLines s
theorem own_down {w : World} {b1 b2 : Nat} {e : TypeId} {size : Nat} {v : Value} {n : Nat} {xs : List Value} (h : w.ownsRow b1 e size v n xs) (hb : b2 ≤ b1) : w.ownsRow b2 e size v n xs := by
  refine ⟨h.1, h.2.imp id ?_⟩
  rintro ⟨g, cap, cur, a1, a2, a3⟩
  exact ⟨g, cap, cur, a1, by omega, a3⟩
theorem below_grown {W W' : World} (hb : Below W.heap.size W W') : W.grownBy W' none := ⟨hb.os, hb.tape, hb.output, hb.size, fun k hk _ => hb.block k hk⟩
set_option maxRecDepth 100000 in
set_option maxHeartbeats 3200000 in
theorem lines1_in (n : Nat) (hn : 1 ≤ n) (B n₀ : Nat) (s : Bs) (w : World) (hs : s.length ≤ 1000000) (hm : MaxVar w) (hG : 1 < n₀) (hb : w.cell? ⟨B, 0, none⟩ = some (.string ⟨s.toArray⟩)) (hB : B < n₀) (hn₀ : n₀ ≤ w.heap.size) :
    SeqR Fence.wide n Tryz.prog 39 #[.pointer (some ⟨B, 0, none⟩)] encsL (fun p => p = ⟨B, 0, none⟩ ∨ p = ⟨1, 0, none⟩) 0 (RL n₀ s) (fun xs => xs.map LX.key = cLines s) (fun pre => pre.map LX.key <+: cLines s) w := fun l J Jx W hW hJ hJx hY h0 => by
  have HM : Hid (MaxVar W) := Lib.hid (hm.next hW)
  have hbW : W.cell? ⟨B, 0, none⟩ = some (.string ⟨s.toArray⟩) := (hW.cell (p := ⟨B, 0, none⟩) (by show B < w.heap.size; omega)).trans hb
  have HJ := Lib.hid hJ
  have HY := Lib.hid hY
  have hsz : n₀ ≤ W.heap.size := Nat.le_trans hn₀ hW.size
  have hszW : W.heap.size + 0 ≤ W.heap.size := Nat.le_refl _
  clear hJ hY hW hJx hb hm
  refine callsIn_of_wp Tryz.func39 rfl trivial ?_ rfl
  simp only [Tryz.ntmps39, List.size_toArray, List.length_cons, List.length_nil, Nat.reduceAdd, Nat.reduceSub, Array.replicate_succ, Array.replicate_zero, List.push_toArray, List.append_toArray, List.nil_append, List.cons_append]
  gi_wp2
  gi_loopw [3] (fun v wr => ∃ (pre : List LX) (cur : Bs), v = .string ⟨cur.toArray⟩ ∧ cur.length ≤ s.length ∧ Hid (pre.map LX.key ++ cLines cur = cLines s) ∧ J pre wr ∧ Hid (KeepsAt (fun p => p = ⟨B, 0, none⟩ ∨ p = ⟨1, 0, none⟩) W wr)) (fun v _ => lenOf v)
  case atStart => exact ⟨[], s, rfl, Nat.le_refl _, Lib.hid rfl, h0, Lib.hid (KeepsAt.refl _ _)⟩
  case round =>
    obtain ⟨pre, cur, rfl, hcl, hq, hJp, hbel⟩ := hrel
    clear h0 hbW
    cases cur with
    | nil =>
      gi_wp2
      go_end0
      exact ⟨⟨_, rfl⟩, .inl ⟨pre, by have := hq.out; rw [show cLines [] = [] from rfl, List.append_nil] at this; exact this, hJp⟩⟩
    | cons c t =>
      have hmr : MaxVar wr := by
        obtain ⟨m, hm⟩ := HM.out
        exact ⟨m, (hbel.out.2.1 ⟨_, 0, none⟩ (.inr rfl)).trans hm⟩
      have CL := Lib.hid ((callsIn_wide (n := n - 1)).2 (line32_any (c :: t) wr (by omega) hmr))
      have hst := Lib.hid (cLines_step (c :: t))
      have her := Lib.hid (cLine_err (c :: t) [] _ (Nat.le_refl _))
      have hln := Lib.hid (cLine_len _ (c :: t) [] (Nat.le_refl _))
      generalize cLine (c :: t) [] = R at *
      obtain ⟨ws, rest, er⟩ := R
      dsimp only at hst her hln
      have hszc := Lib.hid (lenOf_mk (c :: t))
      gi_wp2_with fail
      refine ⟨trivial, ?_⟩
      refine CL.out.mono ?_
      rintro e w1 ⟨v, rfl, hown, hb⟩
      have hJ1 : J pre w1 := HJ.out pre wr w1 none hJp (below_grown hb) (fun r e => by cases e)
      have hbel1 := Lib.hid (hbel.out.trans (KeepsAt.of hb (fun p h => by rcases h with rfl | rfl <;> (have := hbel.out.1; dsimp only; omega))))
      have hsq : Hid (er ≠ 0 → ws = []) := Lib.hid (fun h => (her.out h).1)
      have hkey : Hid ((pre ++ [LX.mk v ws er]).map LX.key ++ (if er ≠ 0 then [] else cLines rest) = cLines s) := Lib.hid (by
        have e2 := hst.out
        rw [if_neg (show ¬ c :: t = [] by simp)] at e2
        rw [← hq.out, e2, List.map_append, List.append_assoc]
        congr 1
        by_cases h0 : er ≠ 0
        · rw [if_pos h0, if_pos h0, ← hsq.out h0]; rfl
        · rw [if_neg h0, if_neg h0, ← Decidable.not_not.1 h0]; rfl)
      obtain ⟨fn, tmps, assign, body, hy, hRd⟩ := HY.out pre ⟨v, ws, er⟩ w1 (Nat.le_trans hszW (hbel1.out.1)) hJ1 ⟨own_down hown (Nat.le_trans hsz hbel.out.1), ⟨_, hkey.out⟩⟩
      dsimp only [encsL] at hy
      have HRd := Lib.hid hRd
      clear hRd hown hb hJp hJ1 hbel CL her hq hst hmr
      by_cases h0 : er = 0
      · subst h0
        have hq2 : Hid ((pre ++ [LX.mk v ws 0]).map LX.key ++ cLines rest = cLines s) := Lib.hid (by have := hkey.out; rw [if_neg (by simp)] at this; exact this)
        have hlen := (hln.out rfl).1
        clear hkey hsq hln
        gi_wp2_with fail
        refine HRd.out.mono ?_
        rintro e W' (⟨rfl, hJ', hk, -⟩ | ⟨rfl, hJx', -⟩)
        · have hbel2 := Lib.hid (hbel1.out.trans ⟨hk.1, fun p h => hk.2.1 p (.inl h), fun p h => hk.2.2 p (.inl h)⟩)
          clear hk hbel1 HRd hy
          gi_wp2_with fail
          go_roundw
          case rel => exact ⟨pre ++ [LX.mk v ws 0], rest, rfl, by rw [List.length_cons] at hcl hlen; omega, hq2, hJ', hbel2⟩
          case measure => rw [hszc.out, lenOf_mk]; exact hlen
        · gi_wp2_with fail
          refine bodyPost_ret (results_none rfl _ _ _) rfl ?_
          exact ⟨⟨_, rfl⟩, .inr ⟨pre ++ [LX.mk v ws 0], ⟨_, hq2.out⟩, hJx'⟩⟩
      · have hq2 : Hid ((pre ++ [LX.mk v ws er]).map LX.key = cLines s) := Lib.hid (by have := hkey.out; rw [if_pos h0, List.append_nil] at this; exact this)
        have b0 : (er != 0) = true := by rw [bne_iff_ne]; exact h0
        clear hkey hsq hln h0
        gi_wp2_with fail
        refine HRd.out.mono ?_
        rintro e W' (⟨rfl, hJ', hk, -⟩ | ⟨rfl, hJx', -⟩)
        · gi_wp2_with fail
          refine bodyPost_ret (results_none rfl _ _ _) rfl ?_
          exact ⟨⟨_, rfl⟩, .inl ⟨pre ++ [LX.mk v ws er], hq2.out, hJ'⟩⟩
        · gi_wp2_with fail
          refine bodyPost_ret (results_none rfl _ _ _) rfl ?_
          exact ⟨⟨_, rfl⟩, .inr ⟨pre ++ [LX.mk v ws er], by rw [hq2.out]; exact List.prefix_refl _, hJx'⟩⟩
end Go.Proofs.YteccjdclkcipbaaGreatDoor
