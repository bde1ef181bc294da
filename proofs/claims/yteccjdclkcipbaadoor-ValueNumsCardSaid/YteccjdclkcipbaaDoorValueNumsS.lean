/-
  counterpanelaw02.ValueNums: its statement 'x, y := value.Of(a), value.Of(b)': each operation keeps the invariant.
-/
import Derived.Test.YteccjdclkcipbaaDoorValueNumsR
namespace Go.Proofs.YteccjdclkcipbaaDoor
open Go.RowKit

section
variable {w w1 : World} {m1 e1 m2 e2 : Int} {x y : Val} {a0 a : Act} {listed : Array Bool} {ops : Array Oper} {Q : Exit → Act → World → Prop} {o : Oper}
theorem NI.olds {i : Nat} (hi : i < listed.size) : ∀ j, j ≠ i → (Up (listed.setIfInBounds i true) j ↔ Up listed j) := fun _ hj => (Up.set hi).trans ⟨fun h => h.resolve_left hj, .inr⟩
theorem put_none (a : Act) (v : Value) : a.put none v = a := rfl
theorem not_up {i : Nat} (hun : listed.getD i true = false) : ¬ Up listed i := fun h => by
  have hi := Up.of_false hun
  unfold Up at h
  simp [hi] at hun h
  rw [hun] at h
  cases h
theorem ni_step0 (hI : NI w m1 e1 m2 e2 x y a0 listed a w1) (hun : listed.getD 0 true = false) (ho : ops[0]? = some o) (hg : o.guard = none) (_hs : 28 < a0.tmps.size) (hop : o.op = .load 23 (.tmp 2)) (hd : o.dst = some 25) (h2 : a0.eval (.tmp 2) = .pointer (some ⟨w.heap.size, 0, none⟩)) : wpOp Tryd.prog ops Q 0 (NI w m1 e1 m2 e2 x y a0 (listed.setIfInBounds 0 true)) a w1 := by
  obtain ⟨v25, v26, v27, v28, v5, v6, rfl, hT, k0, k1, k2, k3, B5, B6, hne, l6, l7⟩ := hI
  have old := NI.olds (listed := listed) (Up.of_false hun)
  have hi := Up.of_false hun
  have hnu := not_up hun
  refine wpOp_plain ho hg ?_
  refine wpOpr_load 23 (.tmp 2) (numV m1 e1) hop ?_ ?_
  · rw [(ev_other a0 v25 v26 v27 v28 v5 v6 2 (.inl rfl)).trans h2]
    exact run_load_num hT.2.1 hT.2.2.1
  · rw [hd, putN_25]
    exact ⟨_, _, _, _, _, _, rfl, hT, fun _ => rfl, fun h => k1 ((old 1 (by decide)).1 h), fun h => k2 ((old 2 (by decide)).1 h), fun h => k3 ((old 3 (by decide)).1 h), B5.cong (old 4 (by decide)) (old 6 (by decide)), B6.cong (old 5 (by decide)) (old 7 (by decide)), fun h h' => hne ((old 4 (by decide)).1 h) ((old 5 (by decide)).1 h'), fun h => (old 4 (by decide)).2 (l6 ((old 6 (by decide)).1 h)), fun h => (old 5 (by decide)).2 (l7 ((old 7 (by decide)).1 h))⟩
theorem ni_step2 (hI : NI w m1 e1 m2 e2 x y a0 listed a w1) (hun : listed.getD 2 true = false) (ho : ops[2]? = some o) (hg : o.guard = none) (_hs : 28 < a0.tmps.size) (hop : o.op = .load 23 (.tmp 3)) (hd : o.dst = some 27) (h2 : a0.eval (.tmp 3) = .pointer (some ⟨w.heap.size + 1, 0, none⟩)) : wpOp Tryd.prog ops Q 2 (NI w m1 e1 m2 e2 x y a0 (listed.setIfInBounds 2 true)) a w1 := by
  obtain ⟨v25, v26, v27, v28, v5, v6, rfl, hT, k0, k1, k2, k3, B5, B6, hne, l6, l7⟩ := hI
  have old := NI.olds (listed := listed) (Up.of_false hun)
  have hi := Up.of_false hun
  have hnu := not_up hun
  refine wpOp_plain ho hg ?_
  refine wpOpr_load 23 (.tmp 3) (numV m2 e2) hop ?_ ?_
  · rw [(ev_other a0 v25 v26 v27 v28 v5 v6 3 (.inr rfl)).trans h2]
    exact run_load_num hT.2.2.2.1 hT.2.2.2.2.1
  · rw [hd, putN_27]
    exact ⟨_, _, _, _, _, _, rfl, hT, fun h => k0 ((old 0 (by decide)).1 h), fun h => k1 ((old 1 (by decide)).1 h), fun _ => rfl, fun h => k3 ((old 3 (by decide)).1 h), B5.cong (old 4 (by decide)) (old 6 (by decide)), B6.cong (old 5 (by decide)) (old 7 (by decide)), fun h h' => hne ((old 4 (by decide)).1 h) ((old 5 (by decide)).1 h'), fun h => (old 4 (by decide)).2 (l6 ((old 6 (by decide)).1 h)), fun h => (old 5 (by decide)).2 (l7 ((old 7 (by decide)).1 h))⟩
theorem ni_step1 (hI : NI w m1 e1 m2 e2 x y a0 listed a w1) (hun : listed.getD 1 true = false) (ho : ops[1]? = some o) (hg : o.guard = none) (hs : 28 < a0.tmps.size) (hop : o.op = .call { callee := .value (.func 13), args := #[.tmp 25], argTypes := #[23] }) (hd : o.dst = some 26) (hdp : Up listed 0) (C : ∀ W, Calls Tryd.prog 13 #[numV m1 e1] W fun e w' => e = .returned (valV x) ∧ Below W.heap.size W w') : wpOp Tryd.prog ops Q 1 (NI w m1 e1 m2 e2 x y a0 (listed.setIfInBounds 1 true)) a w1 := by
  obtain ⟨v25, v26, v27, v28, v5, v6, rfl, hT, k0, k1, k2, k3, B5, B6, hne, l6, l7⟩ := hI
  have old := NI.olds (listed := listed) (Up.of_false hun)
  have hi := Up.of_false hun
  have hnu := not_up hun
  refine wpOp_plain ho hg ?_
  have q := (ev25 a0 v25 v26 v27 v28 v5 v6 hs).trans (k0 hdp)
  refine wpOpr_call 13 _ _ #[numV m1 e1] hop (by simp [q]) (by kernel_rfl) ((C w1).mono ?_)
  rintro e w2 ⟨rfl, hb⟩
  refine ⟨_, rfl, ?_⟩
  rw [hd, putN_26]
  exact ⟨_, _, _, _, _, _, rfl, hT.next hb, fun h => k0 ((old 0 (by decide)).1 h), fun _ => rfl, fun h => k2 ((old 2 (by decide)).1 h), fun h => k3 ((old 3 (by decide)).1 h), (B5.next hb).cong (old 4 (by decide)) (old 6 (by decide)), (B6.next hb).cong (old 5 (by decide)) (old 7 (by decide)), fun h h' => hne ((old 4 (by decide)).1 h) ((old 5 (by decide)).1 h'), fun h => (old 4 (by decide)).2 (l6 ((old 6 (by decide)).1 h)), fun h => (old 5 (by decide)).2 (l7 ((old 7 (by decide)).1 h))⟩
theorem ni_step3 (hI : NI w m1 e1 m2 e2 x y a0 listed a w1) (hun : listed.getD 3 true = false) (ho : ops[3]? = some o) (hg : o.guard = none) (hs : 28 < a0.tmps.size) (hop : o.op = .call { callee := .value (.func 13), args := #[.tmp 27], argTypes := #[23] }) (hd : o.dst = some 28) (hdp : Up listed 2) (C : ∀ W, Calls Tryd.prog 13 #[numV m2 e2] W fun e w' => e = .returned (valV y) ∧ Below W.heap.size W w') : wpOp Tryd.prog ops Q 3 (NI w m1 e1 m2 e2 x y a0 (listed.setIfInBounds 3 true)) a w1 := by
  obtain ⟨v25, v26, v27, v28, v5, v6, rfl, hT, k0, k1, k2, k3, B5, B6, hne, l6, l7⟩ := hI
  have old := NI.olds (listed := listed) (Up.of_false hun)
  have hi := Up.of_false hun
  have hnu := not_up hun
  refine wpOp_plain ho hg ?_
  have q := (ev27 a0 v25 v26 v27 v28 v5 v6 hs).trans (k2 hdp)
  refine wpOpr_call 13 _ _ #[numV m2 e2] hop (by simp [q]) (by kernel_rfl) ((C w1).mono ?_)
  rintro e w2 ⟨rfl, hb⟩
  refine ⟨_, rfl, ?_⟩
  rw [hd, putN_28]
  exact ⟨_, _, _, _, _, _, rfl, hT.next hb, fun h => k0 ((old 0 (by decide)).1 h), fun h => k1 ((old 1 (by decide)).1 h), fun h => k2 ((old 2 (by decide)).1 h), fun _ => rfl, (B5.next hb).cong (old 4 (by decide)) (old 6 (by decide)), (B6.next hb).cong (old 5 (by decide)) (old 7 (by decide)), fun h h' => hne ((old 4 (by decide)).1 h) ((old 5 (by decide)).1 h'), fun h => (old 4 (by decide)).2 (l6 ((old 6 (by decide)).1 h)), fun h => (old 5 (by decide)).2 (l7 ((old 7 (by decide)).1 h))⟩
theorem ni_step4 (hI : NI w m1 e1 m2 e2 x y a0 listed a w1) (hun : listed.getD 4 true = false) (ho : ops[4]? = some o) (hg : o.guard = none) (_hs : 28 < a0.tmps.size) (hop : o.op = .alloc 27) (hd : o.dst = some 5) : wpOp Tryd.prog ops Q 4 (NI w m1 e1 m2 e2 x y a0 (listed.setIfInBounds 4 true)) a w1 := by
  obtain ⟨v25, v26, v27, v28, v5, v6, rfl, hT, k0, k1, k2, k3, B5, B6, hne, l6, l7⟩ := hI
  have old := NI.olds (listed := listed) (Up.of_false hun)
  have hi := Up.of_false hun
  have hnu := not_up hun
  refine wpOp_plain ho hg ?_
  have hb : Below w1.heap.size w1 (w1.alloc (.cells (valC zeroVal) 27)) := (Below.refl _ _).alloc (Nat.le_refl _) _
  refine wpOpr_alloc 27 _ _ hop (run_alloc_val w1) ?_
  rw [hd, putN_5]
  have h6 : ¬ Up listed 6 := fun h => hnu (l6 h)
  exact ⟨_, _, _, _, _, _, rfl, hT.next hb, fun h => k0 ((old 0 (by decide)).1 h), fun h => k1 ((old 1 (by decide)).1 h), fun h => k2 ((old 2 (by decide)).1 h), fun h => k3 ((old 3 (by decide)).1 h), fun _ => ⟨w1.heap.size, rfl, by have := hT.1; omega, .inr ⟨fun h => h6 ((old 6 (by decide)).1 h), Lies.new _ _ _⟩⟩, (B6.next hb).cong (old 5 (by decide)) (old 7 (by decide)), fun _ h e => by obtain ⟨q, e1, _, e2⟩ := B6 ((old 5 (by decide)).1 h); rw [e1] at e; injection e with e; injection e with e; injection e with e; rcases e2 with ⟨_, e2⟩ | ⟨_, e2⟩ <;> (have := e2.lt; omega), fun h => absurd ((old 6 (by decide)).1 h) h6, fun h => (old 5 (by decide)).2 (l7 ((old 7 (by decide)).1 h))⟩
theorem ni_step5 (hI : NI w m1 e1 m2 e2 x y a0 listed a w1) (hun : listed.getD 5 true = false) (ho : ops[5]? = some o) (hg : o.guard = none) (_hs : 28 < a0.tmps.size) (hop : o.op = .alloc 27) (hd : o.dst = some 6) : wpOp Tryd.prog ops Q 5 (NI w m1 e1 m2 e2 x y a0 (listed.setIfInBounds 5 true)) a w1 := by
  obtain ⟨v25, v26, v27, v28, v5, v6, rfl, hT, k0, k1, k2, k3, B5, B6, hne, l6, l7⟩ := hI
  have old := NI.olds (listed := listed) (Up.of_false hun)
  have hi := Up.of_false hun
  have hnu := not_up hun
  refine wpOp_plain ho hg ?_
  have hb : Below w1.heap.size w1 (w1.alloc (.cells (valC zeroVal) 27)) := (Below.refl _ _).alloc (Nat.le_refl _) _
  refine wpOpr_alloc 27 _ _ hop (run_alloc_val w1) ?_
  rw [hd, putN_6]
  have h7 : ¬ Up listed 7 := fun h => hnu (l7 h)
  exact ⟨_, _, _, _, _, _, rfl, hT.next hb, fun h => k0 ((old 0 (by decide)).1 h), fun h => k1 ((old 1 (by decide)).1 h), fun h => k2 ((old 2 (by decide)).1 h), fun h => k3 ((old 3 (by decide)).1 h), (B5.next hb).cong (old 4 (by decide)) (old 6 (by decide)), fun _ => ⟨w1.heap.size, rfl, by have := hT.1; omega, .inr ⟨fun h => h7 ((old 7 (by decide)).1 h), Lies.new _ _ _⟩⟩, fun h _ e => by obtain ⟨q, e1, _, e2⟩ := B5 ((old 4 (by decide)).1 h); rw [e1] at e; injection e with e; injection e with e; injection e with e; rcases e2 with ⟨_, e2⟩ | ⟨_, e2⟩ <;> (have := e2.lt; omega), fun h => (old 4 (by decide)).2 (l6 ((old 6 (by decide)).1 h)), fun h => absurd ((old 7 (by decide)).1 h) h7⟩
theorem ni_step6 (hI : NI w m1 e1 m2 e2 x y a0 listed a w1) (hun : listed.getD 6 true = false) (ho : ops[6]? = some o) (hg : o.guard = none) (hs : 28 < a0.tmps.size) (hop : o.op = .store 27 (.tmp 5) (.tmp 26)) (hd : o.dst = none) (hdp : Up listed 4) (hdq : Up listed 1) : wpOp Tryd.prog ops Q 6 (NI w m1 e1 m2 e2 x y a0 (listed.setIfInBounds 6 true)) a w1 := by
  obtain ⟨v25, v26, v27, v28, v5, v6, rfl, hT, k0, k1, k2, k3, B5, B6, hne, l6, l7⟩ := hI
  have old := NI.olds (listed := listed) (Up.of_false hun)
  have hi := Up.of_false hun
  have hnu := not_up hun
  refine wpOp_plain ho hg ?_
  obtain ⟨p, ep, gp, hl⟩ := B5 hdp
  have hz : Lies w1 p 27 (valC zeroVal) := by
    rcases hl with ⟨g, _⟩ | ⟨_, g⟩
    · exact absurd g hnu
    · exact g
  refine wpOpr_store 27 (.tmp 5) (.tmp 26) (store6 w1 p x) () hop ?_ ?_
  · rw [(ev5 a0 v25 v26 v27 v28 v5 v6 hs).trans ep, (ev26 a0 v25 v26 v27 v28 v5 v6 hs).trans (k1 hdq)]
    exact run_store_val hz
  · have hoth : ∀ z : Val, ∀ q, v6 = .pointer (some ⟨q, 0, none⟩) → Up listed 5 → Lies w1 q 27 (valC z) → Lies (store6 w1 p x) q 27 (valC z) := fun z q eq h hl => store6_off hl (fun e => by subst e; exact hne hdp h (ep.trans eq.symm))
    rw [hd, put_none]
    exact ⟨_, _, _, _, _, _, rfl, store6_two hT gp _, fun h => k0 ((old 0 (by decide)).1 h), fun h => k1 ((old 1 (by decide)).1 h), fun h => k2 ((old 2 (by decide)).1 h), fun h => k3 ((old 3 (by decide)).1 h), fun _ => ⟨p, ep, gp, .inl ⟨(Up.set hi).2 (.inl rfl), store6_lies hz⟩⟩, fun h => by obtain ⟨q, eq, gq, hq⟩ := B6 ((old 5 (by decide)).1 h); exact ⟨q, eq, gq, hq.imp (fun g => ⟨(old 7 (by decide)).2 g.1, hoth _ q eq ((old 5 (by decide)).1 h) g.2⟩) (fun g => ⟨fun z => g.1 ((old 7 (by decide)).1 z), hoth _ q eq ((old 5 (by decide)).1 h) g.2⟩)⟩, fun h h' => hne ((old 4 (by decide)).1 h) ((old 5 (by decide)).1 h'), fun _ => (old 4 (by decide)).2 hdp, fun h => (old 5 (by decide)).2 (l7 ((old 7 (by decide)).1 h))⟩
theorem ni_step7 (hI : NI w m1 e1 m2 e2 x y a0 listed a w1) (hun : listed.getD 7 true = false) (ho : ops[7]? = some o) (hg : o.guard = none) (hs : 28 < a0.tmps.size) (hop : o.op = .store 27 (.tmp 6) (.tmp 28)) (hd : o.dst = none) (hdp : Up listed 5) (hdq : Up listed 3) : wpOp Tryd.prog ops Q 7 (NI w m1 e1 m2 e2 x y a0 (listed.setIfInBounds 7 true)) a w1 := by
  obtain ⟨v25, v26, v27, v28, v5, v6, rfl, hT, k0, k1, k2, k3, B5, B6, hne, l6, l7⟩ := hI
  have old := NI.olds (listed := listed) (Up.of_false hun)
  have hi := Up.of_false hun
  have hnu := not_up hun
  refine wpOp_plain ho hg ?_
  obtain ⟨p, ep, gp, hl⟩ := B6 hdp
  have hz : Lies w1 p 27 (valC zeroVal) := by
    rcases hl with ⟨g, _⟩ | ⟨_, g⟩
    · exact absurd g hnu
    · exact g
  refine wpOpr_store 27 (.tmp 6) (.tmp 28) (store6 w1 p y) () hop ?_ ?_
  · rw [(ev6 a0 v25 v26 v27 v28 v5 v6 hs).trans ep, (ev28 a0 v25 v26 v27 v28 v5 v6 hs).trans (k3 hdq)]
    exact run_store_val hz
  · have hoth : ∀ z : Val, ∀ q, v5 = .pointer (some ⟨q, 0, none⟩) → Up listed 4 → Lies w1 q 27 (valC z) → Lies (store6 w1 p y) q 27 (valC z) := fun z q eq h hl => store6_off hl (fun e => by subst e; exact hne h hdp (eq.trans ep.symm))
    rw [hd, put_none]
    exact ⟨_, _, _, _, _, _, rfl, store6_two hT gp _, fun h => k0 ((old 0 (by decide)).1 h), fun h => k1 ((old 1 (by decide)).1 h), fun h => k2 ((old 2 (by decide)).1 h), fun h => k3 ((old 3 (by decide)).1 h), fun h => by obtain ⟨q, eq, gq, hq⟩ := B5 ((old 4 (by decide)).1 h); exact ⟨q, eq, gq, hq.imp (fun g => ⟨(old 6 (by decide)).2 g.1, hoth _ q eq ((old 4 (by decide)).1 h) g.2⟩) (fun g => ⟨fun z => g.1 ((old 6 (by decide)).1 z), hoth _ q eq ((old 4 (by decide)).1 h) g.2⟩)⟩, fun _ => ⟨p, ep, gp, .inl ⟨(Up.set hi).2 (.inl rfl), store6_lies hz⟩⟩, fun h h' => hne ((old 4 (by decide)).1 h) ((old 5 (by decide)).1 h'), fun h => (old 4 (by decide)).2 (l6 ((old 6 (by decide)).1 h)), fun _ => (old 5 (by decide)).2 hdp⟩
end
end Go.Proofs.YteccjdclkcipbaaDoor
