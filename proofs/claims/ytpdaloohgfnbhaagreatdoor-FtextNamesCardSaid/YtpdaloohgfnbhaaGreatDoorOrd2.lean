/-
  A region that draws its order, by an invariant.
-/
import Derived.Orders
import Derived.WalkKit
namespace Go.Proofs.YtpdaloohgfnbhaaGreatDoor
open Go.RowKit

open Go

/-- has that operation come up? -/
def Up (listed : Array Bool) (i : Nat) : Prop := listed.getD i false = true
theorem Up.of_false {listed : Array Bool} {i : Nat} (h : listed.getD i true = false) : i < listed.size := by
  rcases Nat.lt_or_ge i listed.size with h1 | h1
  · exact h1
  · simp [Array.getElem?_eq_none h1] at h
theorem Up.set {listed : Array Bool} {i j : Nat} (hs : i < listed.size) : Up (listed.setIfInBounds i true) j ↔ (j = i ∨ Up listed j) := by
  unfold Up
  by_cases h : i = j
  · subst h
    simp [hs]
  · rw [getD_set_ne false h]
    constructor
    · exact .inr
    · rintro (e | e)
      · exact absurd e.symm h
      · exact e
theorem Up.none (n i : Nat) : ¬ Up (Array.replicate n false) i := by
  unfold Up
  simp only [Array.getD_eq_getD_getElem?, Array.getElem?_replicate]
  split <;> simp
/-- each operation waits for earlier ones alone -/
def backward (ops : Array Oper) : Bool := (List.range ops.size).all fun i => ((ops[i]?).map fun o => o.after.all fun e => decide (e.on < i)).getD true
theorem backward_spec {ops : Array Oper} (h : backward ops = true) {i : Nat} {o : Oper} (ho : ops[i]? = some o) : ∀ e ∈ o.after, e.on < i := by
  intro e he
  have hlt : i < ops.size := (Array.getElem?_eq_some_iff.1 ho).1
  have := List.all_eq_true.1 h i (List.mem_range.2 hlt)
  rw [ho] at this
  simp only [Option.map_some, Option.getD_some, Array.all_eq_true_iff_forall_mem] at this
  exact of_decide_eq_true (this e he)
theorem all_up {md : Region.Mode} {ops : Array Oper} (hb : backward ops = true) {listed : Array Bool} (hs : listed.size = ops.size) (hr : Region.ready md ops listed = []) : ∀ i, i < ops.size → Up listed i := by
  intro i
  induction i using Nat.strongRecOn with
  | _ i ih =>
    intro hi
    cases hu : listed.getD i true
    · exfalso
      have ho : ops[i]? = some ops[i] := Array.getElem?_eq_getElem hi
      have : i ∈ Region.ready md ops listed := mem_ready.2 ⟨hu, ops[i], ho, fun e he _ => ih e.on (backward_spec hb ho e he) (Nat.lt_trans (backward_spec hb ho e he) hi)⟩
      rw [hr] at this
      cases this
    · have hi' : i < listed.size := by omega
      unfold Up
      simp only [Array.getD_eq_getD_getElem?, Array.getElem?_eq_getElem hi', Option.getD_some] at hu ⊢
      exact hu
def left (listed : Array Bool) : Nat := listed.toList.countP (fun b => !b)
theorem left_set {listed : Array Bool} {i : Nat} (h : listed.getD i true = false) : left (listed.setIfInBounds i true) + 1 = left listed := by
  have hi := Up.of_false h
  have hv : listed[i] = false := by simpa [hi] using h
  unfold left
  obtain ⟨l⟩ := listed
  simp only [List.size_toArray] at hi
  simp only [List.getElem_toArray] at hv
  simp only [List.setIfInBounds_toArray]
  have e1 : l = l.take i ++ l[i] :: l.drop (i + 1) := by
    rw [← List.drop_eq_getElem_cons hi, List.take_append_drop]
  have e2 : l.set i true = l.take i ++ true :: l.drop (i + 1) := List.set_eq_take_append_cons_drop.trans (if_pos hi)
  rw [e2]
  conv => rhs; rw [e1]
  rw [List.countP_append, List.countP_append, List.countP_cons, List.countP_cons, hv]
  simp
  omega
theorem left_zero {listed : Array Bool} (h : left listed = 0) (i : Nat) : listed.getD i true = true := by
  cases hu : listed.getD i true
  · have := left_set hu
    omega
  · rfl
section
variable {P : Program} {ops : Array Oper} {Q : Exit → Act → World → Prop} {md : Region.Mode}
/-- THE INVARIANT: it holds at the start; each operation that may come up keeps it; where all have come up it gives the post. -/
theorem wpAny_inv (hb : backward ops = true) (I : Array Bool → Act → World → Prop)
    (hstep : ∀ listed a w i o, listed.size = ops.size → I listed a w → listed.getD i true = false → ops[i]? = some o → (∀ e ∈ o.after, Region.binds md e = true → Up listed e.on) → wpOp P ops Q i (I (listed.setIfInBounds i true)) a w)
    (hdone : ∀ listed a w, I listed a w → (∀ i, i < ops.size → Up listed i) → Q .normal a w) :
    ∀ (fuel : Nat) (listed : Array Bool) (a : Act) (w : World), listed.size = ops.size → left listed ≤ fuel → I listed a w → wpAny P md ops Q fuel listed a w
  | 0, listed, a, w, hs, hf, hI => by
    have hr : Region.ready md ops listed = [] := by
      refine List.eq_nil_iff_forall_not_mem.2 (fun i hi => ?_)
      have h1 := (mem_ready.1 hi).1
      rw [left_zero (by omega) i] at h1
      cases h1
    exact ⟨hr, hdone listed a w hI (all_up hb hs hr)⟩
  | fuel + 1, listed, a, w, hs, hf, hI => by
    refine ⟨fun hr => hdone listed a w hI (all_up hb hs hr), fun i hi => ?_⟩
    obtain ⟨h1, o, ho, hdeps⟩ := mem_ready.1 hi
    refine wpOp_mono (fun a' w' h' => wpAny_inv hb I hstep hdone fuel _ a' w' (by rw [Array.size_setIfInBounds]; exact hs) (by have := left_set h1; omega) h') (hstep listed a w i o hs hI h1 ho hdeps)
theorem left_replicate (n : Nat) : left (Array.replicate n false) = n := by
  unfold left
  simp [List.countP_replicate]
theorem wp_region_inv {id : Nat} {a : Act} {w : World} (hm : P.follows .mixedOrders = true) (hb : backward ops = true) (I : Array Bool → Act → World → Prop)
    (h0 : I (Array.replicate ops.size false) a w.drew)
    (hstep : ∀ listed a w i o, listed.size = ops.size → I listed a w → listed.getD i true = false → ops[i]? = some o → (∀ e ∈ o.after, Region.binds .any e = true → Up listed e.on) → wpOp P ops Q i (I (listed.setIfInBounds i true)) a w)
    (hdone : ∀ listed a w, I listed a w → (∀ i, i < ops.size → Up listed i) → Q .normal a w) : (Code.region id ops true).wp P Q a w :=
  wp_region_any hm (wpAny_inv hb I hstep hdone ops.size _ a _ (by simp) (by rw [left_replicate]; exact Nat.le_refl _) h0)
/-- the same, the state at the start a letter in the steps -/
theorem wp_region_inv' {id : Nat} {a : Act} {w : World} (hm : P.follows .mixedOrders = true) (hb : backward ops = true) (F : Act → Prop) (I : Act → Array Bool → Act → World → Prop) (hF : F a)
    (h0 : I a (Array.replicate ops.size false) a w.drew)
    (hstep : ∀ a0, F a0 → ∀ listed a w i o, listed.size = ops.size → I a0 listed a w → listed.getD i true = false → ops[i]? = some o → (∀ e ∈ o.after, Region.binds .any e = true → Up listed e.on) → wpOp P ops Q i (I a0 (listed.setIfInBounds i true)) a w)
    (hdone : ∀ listed a' w', I a listed a' w' → (∀ i, i < ops.size → Up listed i) → Q .normal a' w') : (Code.region id ops true).wp P Q a w :=
  wp_region_inv hm hb (I a) h0 (hstep a hF) hdone
theorem wpOp_plain {i : Nat} {o : Oper} {K : Act → World → Prop} {a : Act} {w : World} (ho : ops[i]? = some o) (hg : o.guard = none) (h : o.wp P a w K Q) : wpOp P ops Q i K a w := by
  unfold wpOp
  rw [ho]
  simp only
  rw [if_pos (by simp [Region.wanted, hg])]
  exact .inl h
end
section
variable {P : Program} {o : Oper} {a : Act} {w : World} {K : Act → World → Prop} {Q : Exit → Act → World → Prop}
theorem wpOpr_load (t : TypeId) (x : Operand) (v : Value) (ho : o.op = .load t x) (hr : (Instr.loadAt t (a.eval x)).run P w = .ok v w) (hk : K (a.put o.dst v) w) : o.wp P a w K Q := by
  have e : (execOp a.eval o).run P w = .ok (.value v) w := by
    unfold execOp
    rw [ho]
    simp only
    generalize Instr.loadAt t (a.eval x) = S at hr ⊢
    simp [go_sem, hr]
  unfold Oper.wp
  rw [e]
  exact hk
theorem wpOpr_alloc (t : TypeId) (v : Value) (w1 : World) (ho : o.op = .alloc t) (hr : (Instr.alloc t true (.tuple #[])).run P w = .ok v w1) (hk : K (a.put o.dst v) w1) : o.wp P a w K Q := by
  have e : (execOp a.eval o).run P w = .ok (.value v) w1 := by
    unfold execOp
    rw [ho]
    simp only
    generalize Instr.alloc t true (.tuple #[]) = S at hr ⊢
    simp [go_sem, hr]
  unfold Oper.wp
  rw [e]
  exact hk
theorem wpOpr_store (t : TypeId) (p x : Operand) (w1 : World) (u : Unit) (ho : o.op = .store t p x) (hr : (Instr.storeAt t (a.eval p) (a.eval x)).run P w = .ok u w1) (hk : K (a.put o.dst undef) w1) : o.wp P a w K Q := by
  have e : (execOp a.eval o).run P w = .ok (.skip) w1 := by
    unfold execOp
    rw [ho]
    simp only
    generalize Instr.storeAt t (a.eval p) (a.eval x) = S at hr ⊢
    simp [go_sem, hr]
  unfold Oper.wp
  rw [e]
  exact hk
theorem wpOpr_call (f : FuncId) (args : Array Operand) (ts : Array TypeId) (xs : Array Value) (ho : o.op = .call { callee := .value (.func f), args := args, argTypes := ts }) (hx : args.map a.eval = xs) (hc : (callFunc f xs).run P w = .ok (.enter f xs) w) (hk : Calls P f xs w fun e w' => ∃ v, e = .returned v ∧ K (a.put o.dst v) w') : o.wp P a w K Q := by
  have e : (execOp a.eval o).run P w = .ok (.enter f xs) w := by
    unfold execOp
    rw [ho]
    subst hx
    simp only [go_sem, resolve]
    simp [go_sem, hc]
  unfold Oper.wp
  rw [e]
  refine hk.mono ?_
  rintro e w' ⟨v, rfl, h⟩
  exact h
end
theorem eval_put_ne (a : Act) (v : Value) {t s : Nat} (h : t ≠ s) : (a.put (some t) v).eval (.tmp s) = a.eval (.tmp s) := Act.eval_put (fun _ hd e => h ((Option.some.inj hd).trans (Operand.tmp.inj e).symm))
theorem eval_put_eq (a : Act) (v : Value) {t : Nat} (h : t < a.tmps.size) : (a.put (some t) v).eval (.tmp t) = v := by simp [Act.eval, Act.put, h]
theorem size_put (a : Act) (v : Value) (t : Nat) : (a.put (some t) v).tmps.size = a.tmps.size := by simp [Act.put]
theorem put_put (a : Act) (v u : Value) (t : Nat) : (a.put (some t) v).put (some t) u = a.put (some t) u := by simp [Act.put]
theorem put_swap (a : Act) (v u : Value) {t s : Nat} (h : t ≠ s) : (a.put (some t) v).put (some s) u = (a.put (some s) u).put (some t) v := Act.put_comm a v u (fun _ hd e => h ((Option.some.inj hd).trans (Option.some.inj e).symm))
theorem put_self (a : Act) (t : Nat) : a.put (some t) (a.tmps.getD t undef) = a := by
  obtain ⟨tmps, df⟩ := a
  simp only [Act.put, Act.mk.injEq, and_true]
  apply Array.ext_getElem?
  intro i
  rw [Array.getElem?_setIfInBounds]
  split
  · rename_i h
    subst h
    split
    · rename_i h
      simp [h]
    · rename_i h
      rw [Array.getElem?_eq_none (by omega)]
  · rfl
open Go

/-- a differs from a0 in slots of S alone -/
structure Off (S : List Nat) (a0 a : Act) : Prop where
  defers : a.defers = a0.defers
  size : a.tmps.size = a0.tmps.size
  same : ∀ t : Nat, t ∉ S → a.tmps[t]? = a0.tmps[t]?
theorem Off.refl (S : List Nat) (a : Act) : Off S a a := ⟨rfl, rfl, fun _ _ => rfl⟩
theorem Off.put {S : List Nat} {a0 a : Act} (h : Off S a0 a) {s : Nat} (hs : s ∈ S) (v : Value) : Off S a0 (a.put (some s) v) := by
  refine ⟨h.defers, by rw [size_put]; exact h.size, fun t ht => ?_⟩
  have hne : s ≠ t := fun e => ht (e ▸ hs)
  rw [← h.same t ht]
  simp [Act.put, hne]
theorem Off.eval {S : List Nat} {a0 a : Act} (h : Off S a0 a) {t : Nat} (ht : t ∉ S) : a.eval (.tmp t) = a0.eval (.tmp t) := by
  have := h.same t ht
  simp only [Act.eval, Array.getD_eq_getD_getElem?, this]
theorem Off.form : ∀ (S : List Nat) (a0 a : Act), Off S a0 a → a = S.foldl (fun b s => b.put (some s) (a.tmps.getD s undef)) a0
  | [], a0, a, h => by
    obtain ⟨tmps, df⟩ := a
    obtain ⟨tmps0, df0⟩ := a0
    have h1 := h.defers
    dsimp only at h1
    subst h1
    have h2 : tmps = tmps0 := Array.ext_getElem? (fun t => h.same t (by simp))
    rw [h2]
    rfl
  | s :: S, a0, a, h => by
    rw [List.foldl_cons]
    refine Off.form S _ a ⟨h.defers, by rw [size_put]; exact h.size, fun t ht => ?_⟩
    by_cases hst : s = t
    · subst hst
      have hz := h.size
      simp only [Act.put, Array.getElem?_setIfInBounds, if_true, Array.getD_eq_getD_getElem?]
      split
      · next hlt =>
        have : s < a.tmps.size := by omega
        rw [Array.getElem?_eq_getElem this]
        rfl
      · next hlt => rw [Array.getElem?_eq_none (by omega)]
    · rw [h.same t (by simp only [List.mem_cons, not_or]; exact ⟨fun e => hst e.symm, ht⟩)]
      simp [Act.put, hst]
theorem Off.forms {S : List Nat} {a0 a : Act} (h : Off S a0 a) : ∃ f : Nat → Value, a = S.foldl (fun b s => b.put (some s) (f s)) a0 ∧ ∀ s, f s = a.eval (.tmp s) :=
  ⟨fun s => a.tmps.getD s undef, Off.form S a0 a h, fun _ => rfl⟩
theorem tget {a : Act} {t : Nat} {v : Value} (h : a.eval (.tmp t) = v) : a.tmps[t]?.getD undef = v := by
  rw [← h]
  simp [Act.eval]
/-- operations of known values: which one, its slot, its value -/
def PT (T : List (Nat × Nat × Value)) (listed : Array Bool) (a : Act) : Prop := ∀ e ∈ T, Up listed e.1 → a.eval (.tmp e.2.1) = e.2.2
theorem PT.start (T : List (Nat × Nat × Value)) (n : Nat) (a : Act) : PT T (Array.replicate n false) a := fun _ _ h => absurd h (Up.none _ _)
theorem PT.step {T : List (Nat × Nat × Value)} {listed : Array Bool} {a : Act} (h : PT T listed a) {i s : Nat} {v : Value} (hi : i < listed.size) (hs : s < a.tmps.size) (h1 : ∀ e ∈ T, e.2.1 = s → e.2.2 = v) (h2 : ∀ e ∈ T, e.1 = i → e.2.1 = s) : PT T (listed.setIfInBounds i true) (a.put (some s) v) := by
  intro e he hu
  by_cases hes : s = e.2.1
  · rw [← hes, eval_put_eq _ _ hs, h1 e he hes.symm]
  · rw [eval_put_ne _ _ hes]
    rcases (Up.set hi).1 hu with hu | hu
    · exact absurd (h2 e he hu).symm hes
    · exact h e he hu
/-- an operation of no slot of the table -/
theorem PT.skip {T : List (Nat × Nat × Value)} {listed : Array Bool} {a : Act} (h : PT T listed a) {i : Nat} (hi : i < listed.size) (h1 : ∀ e ∈ T, e.1 ≠ i) : PT T (listed.setIfInBounds i true) a := by
  intro e he hu
  rcases (Up.set hi).1 hu with hu | hu
  · exact absurd hu (h1 e he)
  · exact h e he hu
theorem up_old {listed : Array Bool} {i j : Nat} (hi : i < listed.size) (h : Up (listed.setIfInBounds i true) j) (hne : j ≠ i) : Up listed j := ((Up.set hi).1 h).resolve_left hne
theorem up_new {listed : Array Bool} {i j : Nat} (hi : i < listed.size) (h : Up listed j) : Up (listed.setIfInBounds i true) j := (Up.set hi).2 (.inr h)
theorem up_self {listed : Array Bool} {i : Nat} (hi : i < listed.size) : Up (listed.setIfInBounds i true) i := (Up.set hi).2 (.inl rfl)
theorem not_upO {listed : Array Bool} {i : Nat} (hun : listed.getD i true = false) : ¬ Up listed i := fun h => by
  have hi := Up.of_false hun
  unfold Up at h
  simp [hi] at hun h
  rw [hun] at h
  cases h
/-- an operation that gives a value -/
theorem wpOpr_val {P : Program} {o : Oper} {a : Act} {w w1 : World} {K : Act → World → Prop} {Q : Exit → Act → World → Prop} (v : Value) (hr : (execOp a.eval o).run P w = .ok (.value v) w1) (hk : K (a.put o.dst v) w1) : o.wp P a w K Q := by
  unfold Oper.wp
  rw [hr]
  exact hk
theorem wpOpr_skip {P : Program} {o : Oper} {a : Act} {w w1 : World} {K : Act → World → Prop} {Q : Exit → Act → World → Prop} (hr : (execOp a.eval o).run P w = .ok .skip w1) (hk : K (a.put o.dst undef) w1) : o.wp P a w K Q := by
  unfold Oper.wp
  rw [hr]
  exact hk
end Go.Proofs.YtpdaloohgfnbhaaGreatDoor
