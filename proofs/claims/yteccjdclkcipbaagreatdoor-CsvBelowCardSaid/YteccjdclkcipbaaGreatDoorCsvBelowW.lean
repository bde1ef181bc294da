/-
  counterpanelaw32.CsvBelow: two statements that make an array, in whatever order their operations come; the walk.
-/
import Derived.Test.YteccjdclkcipbaaGreatDoorCRef5
namespace Go.Proofs.YteccjdclkcipbaaGreatDoor
open Go.RowKit

theorem vrow_cells {W : World} {b off : Nat} {vs : List Val} (h : VRow W b off vs) : ∀ (j : Nat) (u : Value), (vcells vs)[j]? = some u → W.cell? ((⟨b, off, none⟩ : Addr).add j) = some u := by
  intro j u hj
  have hadd : (⟨b, off, none⟩ : Addr).add j = ⟨b, off + j, none⟩ := by
    unfold Addr.add
    split
    · next e => rw [e]; rfl
    · rfl
  have hlt : j < vs.length * 6 := by
    have := (List.getElem?_eq_some_iff.1 hj).1
    rwa [vcells_len] at this
  obtain ⟨q, i, hi, rfl⟩ : ∃ q i, i < 6 ∧ j = q * 6 + i := ⟨j / 6, j % 6, Nat.mod_lt _ (by omega), by omega⟩
  have hq : q < vs.length := by omega
  obtain ⟨g0, g1, g2, g3, g4, g5⟩ := vcells_get vs q hq
  obtain ⟨c0, c1, c2, c3, c4, c5⟩ := h.2 q hq
  rw [hadd, ← hj]
  rcases i with _ | _ | _ | _ | _ | _ | i
  · rw [Nat.add_zero, g0, c0]
  · rw [g1, ← c1]; rfl
  · rw [g2, ← c2]; rfl
  · rw [g3, ← c3]; rfl
  · rw [g4, ← c4]; rfl
  · rw [g5, ← c5]; rfl
  · omega
def zArr : Array Value := #[.int .i64 0, .int .i64 0, .slice none 0 0]
/-- operations of known values, one box for an array, one store into it -/
structure RA (S : List Nat) (T : List (Nat × Nat × Value)) (X : World) (ia sa is : Nat) (v0 v1 v2 : Value) (a0 : Act) (listed : Array Bool) (a : Act) (w : World) : Prop where
  off : Off S a0 a
  pt : PT T listed a
  bel : Below X.heap.size X w
  al : Up listed ia → ∃ bx, a.eval (.tmp sa) = .pointer (some ⟨bx, 0, none⟩) ∧ X.heap.size ≤ bx ∧ (¬ Up listed is → Lies w bx 24 zArr) ∧ (Up listed is → Lies w bx 24 #[v0, v1, v2])
  st : Up listed is → Up listed ia
section
variable {S : List Nat} {T : List (Nat × Nat × Value)} {X w : World} {ia sa is : Nat} {v0 v1 v2 : Value} {a0 a : Act} {listed : Array Bool} {ops : Array Oper} {Q : Exit → Act → World → Prop} {o : Oper}
theorem RA.start (a : Act) (m : Nat) (hb : Below X.heap.size X w) : RA S T X ia sa is v0 v1 v2 a (Array.replicate m false) a w :=
  ⟨Off.refl _ _, PT.start _ _ _, hb, fun h => absurd h (Up.none _ _), fun h => absurd h (Up.none _ _)⟩
theorem ra_pure {i s : Nat} (v : Value) (hI : RA S T X ia sa is v0 v1 v2 a0 listed a w) (hun : listed.getD i true = false) (ho : ops[i]? = some o) (hg : o.guard = none) (hd : o.dst = some s) (hs : s < a0.tmps.size) (hia : i ≠ ia) (his : i ≠ is) (hsa : s ≠ sa) (hsS : s ∈ S)
    (h1 : ∀ e ∈ T, e.2.1 = s → e.2.2 = v) (h2 : ∀ e ∈ T, e.1 = i → e.2.1 = s) (hr : (execOp a.eval o).run Tryz.prog w = .ok (.value v) w) : wpOp Tryz.prog ops Q i (RA S T X ia sa is v0 v1 v2 a0 (listed.setIfInBounds i true)) a w := by
  have hi := Up.of_false hun
  refine wpOp_plain ho hg (wpOpr_val v hr ?_)
  rw [hd]
  refine ⟨hI.off.put hsS v, hI.pt.step hi (by rw [hI.off.size]; exact hs) h1 h2, hI.bel, fun h => ?_, fun h => ?_⟩
  · obtain ⟨bx, b1, b2, b3, b4⟩ := hI.al (up_old hi h (fun e => hia e.symm))
    rw [eval_put_ne _ _ hsa]
    exact ⟨bx, b1, b2, fun h' => b3 (fun e => h' (up_new hi e)), fun h' => b4 (up_old hi h' (fun e => his e.symm))⟩
  · exact up_new hi (hI.st (up_old hi h (fun e => his e.symm)))
theorem ra_alloc (hI : RA S T X ia sa is v0 v1 v2 a0 listed a w) (hun : listed.getD ia true = false) (ho : ops[ia]? = some o) (hg : o.guard = none) (hd : o.dst = some sa) (hs : sa < a0.tmps.size) (hsS : sa ∈ S) (hne : is ≠ ia) (hT : ∀ e ∈ T, e.2.1 ≠ sa) (hT2 : ∀ e ∈ T, e.1 ≠ ia)
    (hr : ∀ W : World, (execOp a.eval o).run Tryz.prog W = .ok (.value (.pointer (some ⟨W.heap.size, 0, none⟩))) (W.alloc (.cells zArr 24))) : wpOp Tryz.prog ops Q ia (RA S T X ia sa is v0 v1 v2 a0 (listed.setIfInBounds ia true)) a w := by
  have hi := Up.of_false hun
  have h9 := not_upO hun
  refine wpOp_plain ho hg (wpOpr_val _ (hr w) ?_)
  rw [hd]
  have hw : Below w.heap.size w (w.alloc (.cells zArr 24)) := (Below.refl _ w).alloc (Nat.le_refl _) _
  refine ⟨hI.off.put hsS _, hI.pt.step hi (by rw [hI.off.size]; exact hs) (fun e he hes => absurd hes (hT e he)) (fun e he hes => absurd hes (hT2 e he)), hI.bel.trans (hw.mono hI.bel.size), fun _ => ?_, fun h => ?_⟩
  · exact ⟨w.heap.size, eval_put_eq _ _ (by rw [hI.off.size]; exact hs), hI.bel.size, fun _ => Lies.new w _ _, fun h' => absurd (hI.st (up_old hi h' hne)) h9⟩
  · exact absurd (hI.st (up_old hi h hne)) h9
theorem ra_store (hI : RA S T X ia sa is v0 v1 v2 a0 listed a w) (hun : listed.getD is true = false) (ho : ops[is]? = some o) (hg : o.guard = none) (hd : o.dst = none) (h9 : Up listed ia) (hT2 : ∀ e ∈ T, e.1 ≠ is)
    (hr : ∀ (bx : Nat), a.eval (.tmp sa) = .pointer (some ⟨bx, 0, none⟩) → Lies w bx 24 zArr →
      (execOp a.eval o).run Tryz.prog w = .ok .skip (((w.setCell ⟨bx, 0, none⟩ v0).setCell ⟨bx, 1, none⟩ v1).setCell ⟨bx, 2, none⟩ v2)) : wpOp Tryz.prog ops Q is (RA S T X ia sa is v0 v1 v2 a0 (listed.setIfInBounds is true)) a w := by
  have hi := Up.of_false hun
  have h10 := not_upO hun
  obtain ⟨bx, b1, b2, b3, _⟩ := hI.al h9
  have hl := b3 h10
  refine wpOp_plain ho hg (wpOpr_skip (hr bx b1 hl) ?_)
  rw [hd]
  show RA S T X ia sa is v0 v1 v2 a0 _ a _
  have l3 := ((hl.put 0 v0).put 1 v1).put 2 v2
  exact ⟨hI.off, hI.pt.skip hi hT2, below_set (below_set (below_set hI.bel b2 0 _) b2 1 _) b2 2 _, fun _ => ⟨bx, b1, b2, fun h' => absurd (up_self hi) h', fun _ => l3⟩, fun _ => up_new hi h9⟩
end
/-- two appends, one behind the other, beside operations of known values, one box for an array, one store into it -/
structure RB (S : List Nat) (T : List (Nat × Nat × Value)) (X : World) (r c : Int) (va vb : List Val) (a0 : Act) (listed : Array Bool) (a : Act) (w : World) : Prop where
  off : Off S a0 a
  pt : PT T listed a
  bel : Below X.heap.size X w
  b7 : Up listed 7 → ¬ Up listed 10 → w.ownsRow X.heap.size 38 6 (a.eval (.tmp 55)) 0 []
  b10 : Up listed 10 → Up listed 7 ∧ (¬ Up listed 13 → VOwn w X.heap.size (a.eval (.tmp 58)) va)
  b13 : Up listed 13 → Up listed 10 ∧ VOwn w X.heap.size (a.eval (.tmp 61)) (va ++ vb)
  b14 : Up listed 14 → Up listed 13 ∧ a.eval (.tmp 62) = .agg #[.int .i64 r, .int .i64 c, a.eval (.tmp 61)]
  al : Up listed 15 → ∃ bx, a.eval (.tmp 5) = .pointer (some ⟨bx, 0, none⟩) ∧ X.heap.size ≤ bx ∧ (¬ Up listed 16 → Lies w bx 24 zArr) ∧ (Up listed 16 → Lies w bx 24 #[.int .i64 r, .int .i64 c, a.eval (.tmp 61)])
  st : Up listed 16 → Up listed 15 ∧ Up listed 14
section
variable {S : List Nat} {T : List (Nat × Nat × Value)} {X w : World} {r c : Int} {va vb : List Val} {a0 a : Act} {listed : Array Bool} {ops : Array Oper} {Q : Exit → Act → World → Prop} {o : Oper}
theorem RB.start (a : Act) (m : Nat) (hb : Below X.heap.size X w) : RB S T X r c va vb a (Array.replicate m false) a w :=
  ⟨Off.refl _ _, PT.start _ _ _, hb, fun h => absurd h (Up.none _ _), fun h => absurd h (Up.none _ _), fun h => absurd h (Up.none _ _), fun h => absurd h (Up.none _ _), fun h => absurd h (Up.none _ _), fun h => absurd h (Up.none _ _)⟩
theorem rb_pure {i s : Nat} (v : Value) (hI : RB S T X r c va vb a0 listed a w) (hun : listed.getD i true = false) (ho : ops[i]? = some o) (hg : o.guard = none) (hd : o.dst = some s) (hs : s < a0.tmps.size) (hi7 : i ≠ 7 ∧ i ≠ 10 ∧ i ≠ 13 ∧ i ≠ 14 ∧ i ≠ 15 ∧ i ≠ 16) (hs7 : s ≠ 55 ∧ s ≠ 58 ∧ s ≠ 61 ∧ s ≠ 62 ∧ s ≠ 5) (hsS : s ∈ S)
    (h1 : ∀ e ∈ T, e.2.1 = s → e.2.2 = v) (h2 : ∀ e ∈ T, e.1 = i → e.2.1 = s) (hr : (execOp a.eval o).run Tryz.prog w = .ok (.value v) w) : wpOp Tryz.prog ops Q i (RB S T X r c va vb a0 (listed.setIfInBounds i true)) a w := by
  have hi := Up.of_false hun
  obtain ⟨i7, i10, i13, i14, i15, i16⟩ := hi7
  obtain ⟨s55, s58, s61, s62, s5⟩ := hs7
  refine wpOp_plain ho hg (wpOpr_val v hr ?_)
  rw [hd]
  have e55 : (a.put (some s) v).eval (.tmp 55) = a.eval (.tmp 55) := eval_put_ne _ _ s55
  have e58 : (a.put (some s) v).eval (.tmp 58) = a.eval (.tmp 58) := eval_put_ne _ _ s58
  have e61 : (a.put (some s) v).eval (.tmp 61) = a.eval (.tmp 61) := eval_put_ne _ _ s61
  have e62 : (a.put (some s) v).eval (.tmp 62) = a.eval (.tmp 62) := eval_put_ne _ _ s62
  have e5 : (a.put (some s) v).eval (.tmp 5) = a.eval (.tmp 5) := eval_put_ne _ _ s5
  refine ⟨hI.off.put hsS v, hI.pt.step hi (by rw [hI.off.size]; exact hs) h1 h2, hI.bel, fun h n => ?_, fun h => ?_, fun h => ?_, fun h => ?_, fun h => ?_, fun h => ?_⟩
  · rw [e55]; exact hI.b7 (up_old hi h i7.symm) (fun e => n (up_new hi e))
  · rw [e58]
    obtain ⟨k1, k2⟩ := hI.b10 (up_old hi h i10.symm)
    exact ⟨up_new hi k1, fun n => k2 (fun e => n (up_new hi e))⟩
  · rw [e61]
    obtain ⟨k1, k2⟩ := hI.b13 (up_old hi h i13.symm)
    exact ⟨up_new hi k1, k2⟩
  · rw [e61, e62]
    obtain ⟨k1, k2⟩ := hI.b14 (up_old hi h i14.symm)
    exact ⟨up_new hi k1, k2⟩
  · rw [e61, e5]
    obtain ⟨bx, b1, b2, b3, b4⟩ := hI.al (up_old hi h i15.symm)
    exact ⟨bx, b1, b2, fun h' => b3 (fun e => h' (up_new hi e)), fun h' => b4 (up_old hi h' i16.symm)⟩
  · obtain ⟨k1, k2⟩ := hI.st (up_old hi h i16.symm)
    exact ⟨up_new hi k1, up_new hi k2⟩
theorem own_ne {w : World} {b n : Nat} {v : Value} {xs : List Value} (h : w.ownsRow b 38 6 v n xs) {bx : Nat} {cs : Array Value} (hl : Lies w bx 24 cs) : some bx ≠ v.ownBlock := fun e => by
  rcases h.2 with ⟨rfl, _⟩ | ⟨g, cap, cur, rfl, _, hg, _⟩
  · simp [Value.ownBlock] at e
  · simp [Value.ownBlock] at e
    subst e
    unfold Lies at hl
    rw [hg] at hl
    injection hl with hl
    injection hl with _ hl _
    exact absurd hl (by decide)
theorem rb_made (hI : RB S T X r c va vb a0 listed a w) (hun : listed.getD 7 true = false) (ho : ops[7]? = some o) (hg : o.guard = none) (hd : o.dst = some 55) (hs : 62 < a0.tmps.size) (hsS : 55 ∈ S) (hT : ∀ e ∈ T, e.2.1 ≠ 55) (hT2 : ∀ e ∈ T, e.1 ≠ 7)
    (hr : ∀ W : World, (execOp a.eval o).run Tryz.prog W = .ok (.value (.slice (some ⟨W.heap.size, 0, none⟩) 0 0)) (W.alloc (.cells #[] 38))) : wpOp Tryz.prog ops Q 7 (RB S T X r c va vb a0 (listed.setIfInBounds 7 true)) a w := by
  have hi := Up.of_false hun
  have h7 := not_upO hun
  have n10 : ¬ Up listed 10 := fun h => h7 (hI.b10 h).1
  have n13 : ¬ Up listed 13 := fun h => n10 (hI.b13 h).1
  have n14 : ¬ Up listed 14 := fun h => n13 (hI.b14 h).1
  have n16 : ¬ Up listed 16 := fun h => n14 (hI.st h).2
  refine wpOp_plain ho hg (wpOpr_val _ (hr w) ?_)
  rw [hd]
  have hw : Below w.heap.size w (w.alloc (.cells #[] 38)) := (Below.refl _ w).alloc (Nat.le_refl _) _
  refine ⟨hI.off.put hsS _, hI.pt.step hi (by rw [hI.off.size]; omega) (fun e he hes => absurd hes (hT e he)) (fun e he hes => absurd hes (hT2 e he)), hI.bel.trans (hw.mono hI.bel.size), fun _ _ => ?_, fun h => absurd (up_old hi h (by decide)) n10, fun h => absurd (up_old hi h (by decide)) n13, fun h => absurd (up_old hi h (by decide)) n14, fun h => ?_, fun h => absurd (up_old hi h (by decide)) n16⟩
  · rw [eval_put_eq _ _ (by rw [hI.off.size]; omega)]
    exact World.ownsRow_made w #[] 0 hI.bel.size (Nat.zero_le _) rfl
  · obtain ⟨bx, b1, b2, b3, b4⟩ := hI.al (up_old hi h (by decide))
    rw [eval_put_ne _ _ (by decide)]
    exact ⟨bx, b1, b2, fun h' => (b3 n16).next hw, fun h' => absurd (up_old hi h' (by decide)) n16⟩
theorem rb_app1 (hI : RB S T X r c va vb a0 listed a w) (hun : listed.getD 10 true = false) (ho : ops[10]? = some o) (hg : o.guard = none) (hd : o.dst = some 58) (hs : 62 < a0.tmps.size) (hsS : 58 ∈ S) (hT : ∀ e ∈ T, e.2.1 ≠ 58) (hT2 : ∀ e ∈ T, e.1 ≠ 10) (h7 : Up listed 7)
    (hop : o.op = .call { callee := .builtin .append, args := #[.tmp 55, .tmp 57], argTypes := #[22, 22] }) {b off cap : Nat} (hx : a.eval (.tmp 57) = .slice (some ⟨b, off, none⟩) va.length cap) (hva : VRow X b off va) (hl : va.length ≤ 100) : wpOp Tryz.prog ops Q 10 (RB S T X r c va vb a0 (listed.setIfInBounds 10 true)) a w := by
  have hi := Up.of_false hun
  have h10 := not_upO hun
  have n13 : ¬ Up listed 13 := fun h => h10 (hI.b13 h).1
  have n14 : ¬ Up listed 14 := fun h => n13 (hI.b14 h).1
  have n16 : ¬ Up listed 16 := fun h => n14 (hI.st h).2
  obtain ⟨i1, gi, gz0, gz1, gz2⟩ := info_parts infoVal
  have hown := hI.b7 h7 h10
  refine wpOp_plain ho hg (wp_append_own w (.tmp 55) (.tmp 57) 22 hop X.heap.size 38 i1 (.agg (valC ⟨0, 0, 0, [], false, 0⟩)) 6 56 Tryz.underlying22 gi gz0 gz1 gz2 rfl (by decide) _ 0 [] rfl hown ⟨b, off, none⟩ va.length cap (vcells va) hx (vcells_len va) (vrow_cells (hva.next hI.bel)) (vcells_one va) (by unfold maxLen; omega) (by omega) hI.bel.size ?_)
  intro v' w' hown' hgrow _
  rw [hd]
  rw [Nat.zero_add, List.nil_append] at hown'
  refine ⟨hI.off.put hsS _, hI.pt.step hi (by rw [hI.off.size]; omega) (fun e he hes => absurd hes (hT e he)) (fun e he hes => absurd hes (hT2 e he)), hI.bel.grown hgrow hI.bel.size (fun k hk => (hown.lt k hk).1), fun _ n => absurd (up_self hi) n, fun _ => ⟨up_new hi h7, fun _ => ?_⟩, fun h => absurd (up_old hi h (by decide)) n13, fun h => absurd (up_old hi h (by decide)) n14, fun h => ?_, fun h => absurd (up_old hi h (by decide)) n16⟩
  · rw [eval_put_eq _ _ (by rw [hI.off.size]; omega)]
    exact hown'
  · obtain ⟨bx, b1, b2, b3, b4⟩ := hI.al (up_old hi h (by decide))
    rw [eval_put_ne _ _ (by decide)]
    exact ⟨bx, b1, b2, fun h' => (b3 n16).grown hgrow (own_ne hown (b3 n16)), fun h' => absurd (up_old hi h' (by decide)) n16⟩
theorem rb_app2 (hI : RB S T X r c va vb a0 listed a w) (hun : listed.getD 13 true = false) (ho : ops[13]? = some o) (hg : o.guard = none) (hd : o.dst = some 61) (hs : 62 < a0.tmps.size) (hsS : 61 ∈ S) (hT : ∀ e ∈ T, e.2.1 ≠ 61) (hT2 : ∀ e ∈ T, e.1 ≠ 13) (h10 : Up listed 10)
    (hop : o.op = .call { callee := .builtin .append, args := #[.tmp 58, .tmp 60], argTypes := #[22, 22] }) {b off cap : Nat} (hx : a.eval (.tmp 60) = .slice (some ⟨b, off, none⟩) vb.length cap) (hvb : VRow X b off vb) (hl : va.length + vb.length ≤ 200) : wpOp Tryz.prog ops Q 13 (RB S T X r c va vb a0 (listed.setIfInBounds 13 true)) a w := by
  have hi := Up.of_false hun
  have h13 := not_upO hun
  have n14 : ¬ Up listed 14 := fun h => h13 (hI.b14 h).1
  have n16 : ¬ Up listed 16 := fun h => n14 (hI.st h).2
  obtain ⟨i1, gi, gz0, gz1, gz2⟩ := info_parts infoVal
  obtain ⟨h7, hv⟩ := hI.b10 h10
  have hown := hv h13
  refine wpOp_plain ho hg (wp_append_own w (.tmp 58) (.tmp 60) 22 hop X.heap.size 38 i1 (.agg (valC ⟨0, 0, 0, [], false, 0⟩)) 6 56 Tryz.underlying22 gi gz0 gz1 gz2 rfl (by decide) _ va.length (vcells va) rfl hown ⟨b, off, none⟩ vb.length cap (vcells vb) hx (vcells_len vb) (vrow_cells (hvb.next hI.bel)) (vcells_one vb) (by unfold maxLen; omega) (by omega) hI.bel.size ?_)
  intro v' w' hown' hgrow _
  rw [hd]
  refine ⟨hI.off.put hsS _, hI.pt.step hi (by rw [hI.off.size]; omega) (fun e he hes => absurd hes (hT e he)) (fun e he hes => absurd hes (hT2 e he)), hI.bel.grown hgrow hI.bel.size (fun k hk => (hown.lt k hk).1), fun _ n => absurd (up_new hi h10) n, fun _ => ⟨up_new hi h7, fun n => absurd (up_self hi) n⟩, fun _ => ⟨up_new hi h10, ?_⟩, fun h => absurd (up_old hi h (by decide)) n14, fun h => ?_, fun h => absurd (up_old hi h (by decide)) n16⟩
  · rw [eval_put_eq _ _ (by rw [hI.off.size]; omega)]
    unfold VOwn
    rw [vcells_app, List.length_append]
    exact hown'
  · obtain ⟨bx, b1, b2, b3, b4⟩ := hI.al (up_old hi h (by decide))
    rw [eval_put_ne (t := 61) (s := 5) _ _ (by decide)]
    exact ⟨bx, b1, b2, fun h' => (b3 n16).grown hgrow (own_ne hown (b3 n16)), fun h' => absurd (up_old hi h' (by decide)) n16⟩
theorem rb_build (hI : RB S T X r c va vb a0 listed a w) (hun : listed.getD 14 true = false) (ho : ops[14]? = some o) (hg : o.guard = none) (hd : o.dst = some 62) (hs : 62 < a0.tmps.size) (hsS : 62 ∈ S) (hT : ∀ e ∈ T, e.2.1 ≠ 62) (hT2 : ∀ e ∈ T, e.1 ≠ 14) (h13 : Up listed 13)
    (hr : (execOp a.eval o).run Tryz.prog w = .ok (.value (.agg #[.int .i64 r, .int .i64 c, a.eval (.tmp 61)])) w) : wpOp Tryz.prog ops Q 14 (RB S T X r c va vb a0 (listed.setIfInBounds 14 true)) a w := by
  have hi := Up.of_false hun
  have h14 := not_upO hun
  have n16 : ¬ Up listed 16 := fun h => h14 (hI.st h).2
  refine wpOp_plain ho hg (wpOpr_val _ hr ?_)
  rw [hd]
  obtain ⟨h10, hv13⟩ := hI.b13 h13
  obtain ⟨h7, _⟩ := hI.b10 h10
  refine ⟨hI.off.put hsS _, hI.pt.step hi (by rw [hI.off.size]; omega) (fun e he hes => absurd hes (hT e he)) (fun e he hes => absurd hes (hT2 e he)), hI.bel, fun _ n => absurd (up_new hi h10) n, fun _ => ⟨up_new hi h7, fun n => absurd (up_new hi h13) n⟩, fun _ => ⟨up_new hi h10, ?_⟩, fun _ => ⟨up_new hi h13, ?_⟩, fun h => ?_, fun h => absurd (up_old hi h (by decide)) n16⟩
  · rw [eval_put_ne _ _ (by decide)]; exact hv13
  · rw [eval_put_eq _ _ (by rw [hI.off.size]; omega), eval_put_ne (t := 62) (s := 61) _ _ (by decide)]
  · obtain ⟨bx, b1, b2, b3, b4⟩ := hI.al (up_old hi h (by decide))
    rw [eval_put_ne _ _ (by decide), eval_put_ne _ _ (by decide)]
    exact ⟨bx, b1, b2, fun h' => b3 n16, fun h' => absurd (up_old hi h' (by decide)) n16⟩
theorem rb_alloc (hI : RB S T X r c va vb a0 listed a w) (hun : listed.getD 15 true = false) (ho : ops[15]? = some o) (hg : o.guard = none) (hd : o.dst = some 5) (hs : 62 < a0.tmps.size) (hsS : 5 ∈ S) (hT : ∀ e ∈ T, e.2.1 ≠ 5) (hT2 : ∀ e ∈ T, e.1 ≠ 15)
    (hr : ∀ W : World, (execOp a.eval o).run Tryz.prog W = .ok (.value (.pointer (some ⟨W.heap.size, 0, none⟩))) (W.alloc (.cells zArr 24))) : wpOp Tryz.prog ops Q 15 (RB S T X r c va vb a0 (listed.setIfInBounds 15 true)) a w := by
  have hi := Up.of_false hun
  have h15 := not_upO hun
  have n16 : ¬ Up listed 16 := fun h => h15 (hI.st h).1
  refine wpOp_plain ho hg (wpOpr_val _ (hr w) ?_)
  rw [hd]
  have hw : Below w.heap.size w (w.alloc (.cells zArr 24)) := (Below.refl _ w).alloc (Nat.le_refl _) _
  have e55 : (a.put (some 5) (.pointer (some ⟨w.heap.size, 0, none⟩))).eval (.tmp 55) = a.eval (.tmp 55) := eval_put_ne _ _ (by decide)
  have e58 : (a.put (some 5) (.pointer (some ⟨w.heap.size, 0, none⟩))).eval (.tmp 58) = a.eval (.tmp 58) := eval_put_ne _ _ (by decide)
  have e61 : (a.put (some 5) (.pointer (some ⟨w.heap.size, 0, none⟩))).eval (.tmp 61) = a.eval (.tmp 61) := eval_put_ne _ _ (by decide)
  have e62 : (a.put (some 5) (.pointer (some ⟨w.heap.size, 0, none⟩))).eval (.tmp 62) = a.eval (.tmp 62) := eval_put_ne _ _ (by decide)
  refine ⟨hI.off.put hsS _, hI.pt.step hi (by rw [hI.off.size]; omega) (fun e he hes => absurd hes (hT e he)) (fun e he hes => absurd hes (hT2 e he)), hI.bel.trans (hw.mono hI.bel.size), fun h n => ?_, fun h => ?_, fun h => ?_, fun h => ?_, fun _ => ?_, fun h => absurd (up_old hi h (by decide)) n16⟩
  · rw [e55]; exact own_next hw (hI.b7 (up_old hi h (by decide)) (fun e => n (up_new hi e)))
  · rw [e58]
    obtain ⟨k1, k2⟩ := hI.b10 (up_old hi h (by decide))
    exact ⟨up_new hi k1, fun n => own_next hw (k2 (fun e => n (up_new hi e)))⟩
  · rw [e61]
    obtain ⟨k1, k2⟩ := hI.b13 (up_old hi h (by decide))
    exact ⟨up_new hi k1, own_next hw k2⟩
  · rw [e61, e62]
    obtain ⟨k1, k2⟩ := hI.b14 (up_old hi h (by decide))
    exact ⟨up_new hi k1, k2⟩
  · exact ⟨w.heap.size, eval_put_eq _ _ (by rw [hI.off.size]; omega), hI.bel.size, fun _ => Lies.new w _ _, fun h' => absurd (up_old hi h' (by decide)) n16⟩
theorem rb_store (hI : RB S T X r c va vb a0 listed a w) (hun : listed.getD 16 true = false) (ho : ops[16]? = some o) (hg : o.guard = none) (hd : o.dst = none) (h14 : Up listed 14) (h15 : Up listed 15) (hT2 : ∀ e ∈ T, e.1 ≠ 16)
    (hr : ∀ (bx : Nat), a.eval (.tmp 5) = .pointer (some ⟨bx, 0, none⟩) → Lies w bx 24 zArr → a.eval (.tmp 62) = .agg #[.int .i64 r, .int .i64 c, a.eval (.tmp 61)] → (∃ A cp, a.eval (.tmp 61) = .slice A (va ++ vb).length cp) →
      (execOp a.eval o).run Tryz.prog w = .ok .skip (((w.setCell ⟨bx, 0, none⟩ (.int .i64 r)).setCell ⟨bx, 1, none⟩ (.int .i64 c)).setCell ⟨bx, 2, none⟩ (a.eval (.tmp 61)))) : wpOp Tryz.prog ops Q 16 (RB S T X r c va vb a0 (listed.setIfInBounds 16 true)) a w := by
  have hi := Up.of_false hun
  have h16 := not_upO hun
  obtain ⟨bx, b1, b2, b3, _⟩ := hI.al h15
  have hl := b3 h16
  obtain ⟨h13, e62⟩ := hI.b14 h14
  obtain ⟨h10, hv13⟩ := hI.b13 h13
  obtain ⟨h7, _⟩ := hI.b10 h10
  obtain ⟨A, cp, hsl⟩ := own_slice hv13
  refine wpOp_plain ho hg (wpOpr_skip (hr bx b1 hl e62 ⟨A, cp, hsl⟩) ?_)
  rw [hd]
  show RB S T X r c va vb a0 _ a _
  have l3 := ((hl.put 0 (.int .i64 r)).put 1 (.int .i64 c)).put 2 (a.eval (.tmp 61))
  have hg3 : w.grownBy (((w.setCell ⟨bx, 0, none⟩ (.int .i64 r)).setCell ⟨bx, 1, none⟩ (.int .i64 c)).setCell ⟨bx, 2, none⟩ (a.eval (.tmp 61))) (some bx) := gset (gset (gset ⟨rfl, rfl, rfl, Nat.le_refl _, fun _ _ _ => rfl⟩ 0 _) 1 _) 2 _
  refine ⟨hI.off, hI.pt.skip hi hT2, below_set (below_set (below_set hI.bel b2 0 _) b2 1 _) b2 2 _, fun _ n => absurd (up_new hi h10) n, fun _ => ⟨up_new hi h7, fun n => absurd (up_new hi h13) n⟩, fun _ => ⟨up_new hi h10, ?_⟩, fun _ => ⟨up_new hi h13, e62⟩, fun _ => ⟨bx, b1, b2, fun h' => absurd (up_self hi) h', fun _ => l3⟩, fun _ => ⟨up_new hi h15, up_new hi h14⟩⟩
  refine World.ownsRow.kept hv13 hg3 (.inr (fun e => own_ne hv13 hl e.symm))
end
def tab5 (q Rn R2 C ba oa na ca bb ob nb cb : Nat) : List (Nat × Nat × Value) := [(0, 48, .pointer (some ⟨q, 0, none⟩)), (1, 49, .int .i64 (Rn : Int)), (2, 50, .pointer (some ⟨q + 1, 0, none⟩)), (3, 51, .int .i64 (R2 : Int)), (4, 52, .int .i64 ((Rn : Int) + (R2 : Int))), (5, 53, .pointer (some ⟨q, 1, none⟩)), (6, 54, .int .i64 (C : Int)), (8, 56, .pointer (some ⟨q, 2, none⟩)), (9, 57, .slice (some ⟨ba, oa, none⟩) na ca), (11, 59, .pointer (some ⟨q + 1, 2, none⟩)), (12, 60, .slice (some ⟨bb, ob, none⟩) nb cb)]
theorem tab5_eq {q Rn R2 C ba oa na ca bb ob nb cb : Nat} {Z : Nat × Nat × Value → Prop} (h : Z (0, 48, .pointer (some ⟨q, 0, none⟩)) ∧ Z (1, 49, .int .i64 (Rn : Int)) ∧ Z (2, 50, .pointer (some ⟨q + 1, 0, none⟩)) ∧ Z (3, 51, .int .i64 (R2 : Int)) ∧ Z (4, 52, .int .i64 ((Rn : Int) + (R2 : Int))) ∧ Z (5, 53, .pointer (some ⟨q, 1, none⟩)) ∧ Z (6, 54, .int .i64 (C : Int)) ∧ Z (8, 56, .pointer (some ⟨q, 2, none⟩)) ∧ Z (9, 57, .slice (some ⟨ba, oa, none⟩) na ca) ∧ Z (11, 59, .pointer (some ⟨q + 1, 2, none⟩)) ∧ Z (12, 60, .slice (some ⟨bb, ob, none⟩) nb cb)) : ∀ e ∈ tab5 q Rn R2 C ba oa na ca bb ob nb cb, Z e := by
  intro e he
  simp only [tab5, List.mem_cons, List.not_mem_nil, or_false] at he
  obtain ⟨h0, h1, h2, h3, h4, h5, h6, h7, h8, h9, h10⟩ := h
  rcases he with rfl | rfl | rfl | rfl | rfl | rfl | rfl | rfl | rfl | rfl | rfl <;> assumption
abbrev slots5 : List Nat := [48, 49, 50, 51, 52, 53, 54, 55, 56, 57, 58, 59, 60, 61, 62, 5]
def tab11 (q C ba oa na ca i M M2 : Nat) : List (Nat × Nat × Value) := [(0, 77, .pointer (some ⟨q, 1, none⟩)), (1, 78, .int .i64 (C : Int)), (2, 79, .pointer (some ⟨q, 2, none⟩)), (3, 80, .slice (some ⟨ba, oa, none⟩) na ca), (4, 81, .int .i64 (i : Int)), (5, 82, .pointer (some ⟨q, 1, none⟩)), (6, 83, .int .i64 (C : Int)), (7, 84, .int .i64 (M : Int)), (8, 85, .int .i64 (i : Int)), (9, 86, .int .i64 ((i : Int) + 1)), (10, 87, .pointer (some ⟨q, 1, none⟩)), (11, 88, .int .i64 (C : Int)), (12, 89, .int .i64 (M2 : Int)), (13, 90, .slice (some ⟨ba, oa + M * 6, none⟩) (M2 - M) (ca - M)), (14, 91, .agg #[.int .i64 1, .int .i64 (C : Int), .slice (some ⟨ba, oa + M * 6, none⟩) (M2 - M) (ca - M)])]
theorem tab11_eq {q C ba oa na ca i M M2 : Nat} {Z : Nat × Nat × Value → Prop} (h : Z (0, 77, .pointer (some ⟨q, 1, none⟩)) ∧ Z (1, 78, .int .i64 (C : Int)) ∧ Z (2, 79, .pointer (some ⟨q, 2, none⟩)) ∧ Z (3, 80, .slice (some ⟨ba, oa, none⟩) na ca) ∧ Z (4, 81, .int .i64 (i : Int)) ∧ Z (5, 82, .pointer (some ⟨q, 1, none⟩)) ∧ Z (6, 83, .int .i64 (C : Int)) ∧ Z (7, 84, .int .i64 (M : Int)) ∧ Z (8, 85, .int .i64 (i : Int)) ∧ Z (9, 86, .int .i64 ((i : Int) + 1)) ∧ Z (10, 87, .pointer (some ⟨q, 1, none⟩)) ∧ Z (11, 88, .int .i64 (C : Int)) ∧ Z (12, 89, .int .i64 (M2 : Int)) ∧ Z (13, 90, .slice (some ⟨ba, oa + M * 6, none⟩) (M2 - M) (ca - M)) ∧ Z (14, 91, .agg #[.int .i64 1, .int .i64 (C : Int), .slice (some ⟨ba, oa + M * 6, none⟩) (M2 - M) (ca - M)])) : ∀ e ∈ tab11 q C ba oa na ca i M M2, Z e := by
  intro e he
  simp only [tab11, List.mem_cons, List.not_mem_nil, or_false] at he
  obtain ⟨h0, h1, h2, h3, h4, h5, h6, h7, h8, h9, h10, h11, h12, h13, h14⟩ := h
  rcases he with rfl | rfl | rfl | rfl | rfl | rfl | rfl | rfl | rfl | rfl | rfl | rfl | rfl | rfl | rfl <;> assumption
abbrev slots11 : List Nat := [77, 78, 79, 80, 81, 82, 83, 84, 85, 86, 87, 88, 89, 90, 91, 7]
theorem vrow_sub {W : World} {b off : Nat} {vs : List Val} (h : VRow W b off vs) (M C : Nat) : VRow W b (off + M * 6) ((vs.drop M).take C) := by
  refine ⟨h.1, fun j hj => ?_⟩
  have hj2 : j < C ∧ M + j < vs.length := by rw [List.length_take, List.length_drop] at hj; omega
  have e : ((vs.drop M).take C)[j] = vs[M + j]'hj2.2 := by rw [List.getElem_take, List.getElem_drop]
  have := h.2 (M + j) hj2.2
  rw [e, show off + M * 6 + j * 6 = off + (M + j) * 6 by rw [Nat.add_mul]; omega]
  exact this
/-- the three boxes of arrays -/
structure B3 (X : World) (q p : Nat) (r c r2 : Int) (A B G : Option Addr) (na ca nb cb ng cg : Nat) (w : World) : Prop where
  a0 : w.cell? ⟨q, 0, none⟩ = some (.int .i64 r)
  a1 : w.cell? ⟨q, 1, none⟩ = some (.int .i64 c)
  a2 : w.cell? ⟨q, 2, none⟩ = some (.slice A na ca)
  b0 : w.cell? ⟨q + 1, 0, none⟩ = some (.int .i64 r2)
  b1 : w.cell? ⟨q + 1, 1, none⟩ = some (.int .i64 c)
  b2 : w.cell? ⟨q + 1, 2, none⟩ = some (.slice B nb cb)
  c0 : w.cell? ⟨p, 0, none⟩ = some (.int .i64 (r + r2))
  c1 : w.cell? ⟨p, 1, none⟩ = some (.int .i64 c)
  c2 : w.cell? ⟨p, 2, none⟩ = some (.slice G ng cg)
  qa : q < w.heap.size
  qb : q + 1 < w.heap.size
  qp : p < w.heap.size
  bel : Below X.heap.size X w
theorem B3.next {X w w' : World} {q p : Nat} {r c r2 : Int} {A B G : Option Addr} {na ca nb cb ng cg : Nat} (h : B3 X q p r c r2 A B G na ca nb cb ng cg w) (hb : Below w.heap.size w w') : B3 X q p r c r2 A B G na ca nb cb ng cg w' := by
  have k : ∀ g i, g < w.heap.size → w'.cell? ⟨g, i, none⟩ = w.cell? ⟨g, i, none⟩ := fun g i hg => hb.cell (p := ⟨g, i, none⟩) hg
  have hs := hb.size
  exact ⟨(k _ _ h.qa).trans h.a0, (k _ _ h.qa).trans h.a1, (k _ _ h.qa).trans h.a2, (k _ _ h.qb).trans h.b0, (k _ _ h.qb).trans h.b1, (k _ _ h.qb).trans h.b2, (k _ _ h.qp).trans h.c0, (k _ _ h.qp).trans h.c1, (k _ _ h.qp).trans h.c2, by have := h.qa; omega, by have := h.qb; omega, by have := h.qp; omega, h.bel.trans (hb.mono h.bel.size)⟩
theorem B3.all {X w : World} {q p : Nat} {r c r2 : Int} {A B G : Option Addr} {na ca nb cb ng cg : Nat} (h : B3 X q p r c r2 A B G na ca nb cb ng cg w) : w.cell? ⟨q, 0, none⟩ = some (.int .i64 r) ∧ w.cell? ⟨q, 1, none⟩ = some (.int .i64 c) ∧ w.cell? ⟨q, 2, none⟩ = some (.slice A na ca) ∧ w.cell? ⟨q + 1, 0, none⟩ = some (.int .i64 r2) ∧ w.cell? ⟨q + 1, 1, none⟩ = some (.int .i64 c) ∧ w.cell? ⟨q + 1, 2, none⟩ = some (.slice B nb cb) ∧ w.cell? ⟨p, 0, none⟩ = some (.int .i64 (r + r2)) ∧ w.cell? ⟨p, 1, none⟩ = some (.int .i64 c) ∧ w.cell? ⟨p, 2, none⟩ = some (.slice G ng cg) ∧ q < w.heap.size ∧ q + 1 < w.heap.size ∧ p < w.heap.size ∧ Below X.heap.size X w :=
  ⟨h.a0, h.a1, h.a2, h.b0, h.b1, h.b2, h.c0, h.c1, h.c2, h.qa, h.qb, h.qp, h.bel⟩
set_option maxRecDepth 100000 in
set_option maxHeartbeats 6400000 in
theorem csvBelow_any (r c : Int) (A : Option Addr) (ca : Nat) (va : List Val) (r2 c2 : Int) (B : Option Addr) (cb : Nat) (vb : List Val) (w : World) (hr : -9223372036854775808 ≤ r ∧ r ≤ 9223372036854775807) (hr2 : -9223372036854775808 ≤ r2 ∧ r2 ≤ 9223372036854775807)
    (hca : va.length ≤ ca) (hva : VSl w A va) (hvb : VSl w B vb) (hma : ∀ v ∈ va, -9223372036854775808 ≤ v.mant ∧ v.mant ≤ 9223372036854775807) (hmb : ∀ v ∈ vb, -9223372036854775808 ≤ v.mant ∧ v.mant ≤ 9223372036854775807) (hT : Tab w) (hP : PowTab w) (hm : MaxVar w) :
    Calls Tryz.prog 5 #[.agg #[.int .i64 r, .int .i64 c, .slice A va.length ca], .agg #[.int .i64 r2, .int .i64 c2, .slice B vb.length cb]] w fun e w' => e = .returned (.bool true) ∧ Below w.heap.size w w' := by
  obtain ⟨W0, hW0⟩ : ∃ W0, W0 = (w.alloc (.cells #[.int .i64 r, .int .i64 c, .slice A va.length ca] 24)).alloc (.cells #[.int .i64 r2, .int .i64 c2, .slice B vb.length cb] 24) := ⟨_, rfl⟩
  have HB0 : Hid (Below w.heap.size w W0) := Lib.hid (by rw [hW0]; exact ((Below.refl _ w).alloc (Nat.le_refl _) _).alloc (by rw [World.size_alloc]; omega) _)
  have HLa : Hid (Lies W0 w.heap.size 24 #[.int .i64 r, .int .i64 c, .slice A va.length ca]) := Lib.hid (by rw [hW0]; exact (Lies.new w _ _).alloc _)
  have HLb : Hid (Lies W0 (w.heap.size + 1) 24 #[.int .i64 r2, .int .i64 c2, .slice B vb.length cb]) := Lib.hid (by
    rw [hW0]
    have h := Lies.new (w.alloc (.cells #[.int .i64 r, .int .i64 c, .slice A va.length ca] 24)) 24 #[.int .i64 r2, .int .i64 c2, .slice B vb.length cb]
    rw [World.size_alloc] at h
    exact h)
  have HVa := Lib.hid (hva.next HB0.out)
  have HVb := Lib.hid (hvb.next HB0.out)
  have HT := Lib.hid (hT.next HB0.out)
  have HP := Lib.hid (hP.next HB0.out)
  have HM := Lib.hid (hm.next HB0.out)
  have C0 := Lib.hid (awake32_any W0 HT.out HP.out HM.out)
  have HMa := Lib.hid hma
  have HMb := Lib.hid hmb
  have HR := Lib.hid hr
  have HR2 := Lib.hid hr2
  have HCa := Lib.hid hca
  have HW := Lib.hid hW0
  clear hva hvb hT hP hm hma hmb hW0 hr hr2 hca
  go_enter Tryz.func5, Tryz.ntmps5
  go_wp2_with fail
  rw [← HW.out]
  refine C0.out.mono ?_
  rintro e w1 ⟨rfl, hb1⟩
  have HB1 := Lib.hid hb1
  clear hb1 C0
  have x2 := (HLa.out.next HB1.out).cell 2
  have z2 := (HLb.out.next HB1.out).cell 2
  have x0 := (HLa.out.next HB1.out).cell 0
  have x1 := (HLa.out.next HB1.out).cell 1
  have z0 := (HLb.out.next HB1.out).cell 0
  have z1 := (HLb.out.next HB1.out).cell 1
  simp only [List.getElem?_toArray, List.getElem?_cons_zero, List.getElem?_cons_succ] at x0 x1 x2 z0 z1 z2
  have HEnd : Hid (∀ w', Below W0.heap.size W0 w' → Below w.heap.size w w') := Lib.hid (fun w' h => HB0.out.trans (h.mono HB0.out.size))
  by_cases la : 100 < va.length
  · have la2 : (100 : Int) < (va.length : Int) := by omega
    go_wp2_with fail
    go_ret
    exact ⟨rfl, HEnd.out _ HB1.out⟩
  have la2 : ¬ (100 : Int) < (va.length : Int) := by omega
  by_cases lb : 100 < vb.length
  · have lb2 : (100 : Int) < (vb.length : Int) := by omega
    go_wp2_with fail
    go_ret
    exact ⟨rfl, HEnd.out _ HB1.out⟩
  have lb2 : ¬ (100 : Int) < (vb.length : Int) := by omega
  have CGa := Lib.hid (great32_any r c A ca va w1 (HVa.out.next HB1.out))
  go_wp2_with fail
  refine CGa.out.mono ?_
  rintro e w2 ⟨⟨b, rfl, hbf⟩, hb2⟩
  have HB2 := Lib.hid (HB1.out.trans (hb2.mono HB1.out.size))
  clear CGa x0 x1 x2 z0 z1 z2 hb2 HB1
  have x2 := (HLa.out.next HB2.out).cell 2
  have z2 := (HLb.out.next HB2.out).cell 2
  have x0 := (HLa.out.next HB2.out).cell 0
  have x1 := (HLa.out.next HB2.out).cell 1
  have z0 := (HLb.out.next HB2.out).cell 0
  have z1 := (HLb.out.next HB2.out).cell 1
  simp only [List.getElem?_toArray, List.getElem?_cons_zero, List.getElem?_cons_succ] at x0 x1 x2 z0 z1 z2
  cases b
  case true =>
    go_wp2_with fail
    go_ret
    exact ⟨rfl, HEnd.out _ HB2.out⟩
  have HSa : Hid (∀ v ∈ va, v.sane) := Lib.hid (fun v hv => ⟨(HMa.out v hv).1, (HMa.out v hv).2, by have := (hbf rfl).2 v hv; omega⟩)
  clear hbf
  have CGb := Lib.hid (great32_any r2 c2 B cb vb w2 (HVb.out.next HB2.out))
  go_wp2_with fail
  refine CGb.out.mono ?_
  rintro e w3 ⟨⟨b, rfl, hbf⟩, hb3⟩
  have HB3 := Lib.hid (HB2.out.trans (hb3.mono HB2.out.size))
  clear CGb x0 x1 x2 z0 z1 z2 hb3 HB2
  have x2 := (HLa.out.next HB3.out).cell 2
  have z2 := (HLb.out.next HB3.out).cell 2
  have x0 := (HLa.out.next HB3.out).cell 0
  have x1 := (HLa.out.next HB3.out).cell 1
  have z0 := (HLb.out.next HB3.out).cell 0
  have z1 := (HLb.out.next HB3.out).cell 1
  simp only [List.getElem?_toArray, List.getElem?_cons_zero, List.getElem?_cons_succ] at x0 x1 x2 z0 z1 z2
  cases b
  case true =>
    go_wp2_with fail
    go_ret
    exact ⟨rfl, HEnd.out _ HB3.out⟩
  have HSb : Hid (∀ v ∈ vb, v.sane) := Lib.hid (fun v hv => ⟨(HMb.out v hv).1, (HMb.out v hv).2, by have := (hbf rfl).2 v hv; omega⟩)
  clear hbf
  have CMa := Lib.hid (rmay32_any r c A ca va w3 HR.out (HVa.out.next HB3.out) HSa.out)
  cases ha : aRight r c va
  · rw [ha] at CMa
    clear ha
    go_wp2_with fail
    refine CMa.out.mono ?_
    rintro e w4 ⟨rfl, hb4⟩
    have HB4 := Lib.hid (HB3.out.trans (hb4.mono HB3.out.size))
    clear hb4 x0 x1 x2 z0 z1 z2
    go_wp2_with fail
    go_ret
    exact ⟨rfl, HEnd.out _ HB4.out⟩
  rw [ha] at CMa
  go_wp2_with fail
  refine CMa.out.mono ?_
  rintro e w4 ⟨rfl, hb4⟩
  have HB4 := Lib.hid (HB3.out.trans (hb4.mono HB3.out.size))
  clear hb4 x0 x1 x2 z0 z1 z2 CMa HB3
  have x2 := (HLa.out.next HB4.out).cell 2
  have z2 := (HLb.out.next HB4.out).cell 2
  have x0 := (HLa.out.next HB4.out).cell 0
  have x1 := (HLa.out.next HB4.out).cell 1
  have z0 := (HLb.out.next HB4.out).cell 0
  have z1 := (HLb.out.next HB4.out).cell 1
  simp only [List.getElem?_toArray, List.getElem?_cons_zero, List.getElem?_cons_succ] at x0 x1 x2 z0 z1 z2
  have CMb := Lib.hid (rmay32_any r2 c2 B cb vb w4 HR2.out (HVb.out.next HB4.out) HSb.out)
  cases hb : aRight r2 c2 vb
  · rw [hb] at CMb
    clear hb ha
    go_wp2_with fail
    refine CMb.out.mono ?_
    rintro e w5 ⟨rfl, hb5⟩
    have HB5 := Lib.hid (HB4.out.trans (hb5.mono HB4.out.size))
    clear hb5 x0 x1 x2 z0 z1 z2
    go_wp2_with fail
    go_ret
    exact ⟨rfl, HEnd.out _ HB5.out⟩
  rw [hb] at CMb
  go_wp2_with fail
  refine CMb.out.mono ?_
  rintro e w5 ⟨rfl, hb5⟩
  have HB5 := Lib.hid (HB4.out.trans (hb5.mono HB4.out.size))
  clear hb5 x0 x1 x2 z0 z1 z2 CMb HB4
  have x2 := (HLa.out.next HB5.out).cell 2
  have z2 := (HLb.out.next HB5.out).cell 2
  have x0 := (HLa.out.next HB5.out).cell 0
  have x1 := (HLa.out.next HB5.out).cell 1
  have z0 := (HLb.out.next HB5.out).cell 0
  have z1 := (HLb.out.next HB5.out).cell 1
  simp only [List.getElem?_toArray, List.getElem?_cons_zero, List.getElem?_cons_succ] at x0 x1 x2 z0 z1 z2
  by_cases hc : c = c2
  case neg =>
    have b0 : (c != c2) = true := by rw [bne_iff_ne]; exact hc
    clear ha hb hc
    go_wp2_with fail
    go_ret
    exact ⟨rfl, HEnd.out _ HB5.out⟩
  subst hc
  go_wp2_with fail
  obtain ⟨f1, -, hvr1⟩ := aRight_yes ha
  obtain ⟨Rn, C, rfl, rfl, g1, g2, g3, g4, g5⟩ := fits_nat f1
  obtain ⟨f2, -, hvr2⟩ := aRight_yes hb
  obtain ⟨R2, C', rfl, hC', k1, k2, k3, k4, k5⟩ := fits_nat f2
  obtain rfl : C' = C := by omega
  have hla : va.length = Rn * C' := by
    have := (aRight_yes ha).2.1
    rw [← Int.natCast_mul] at this
    exact_mod_cast this
  have hlb : vb.length = R2 * C' := by
    have := (aRight_yes hb).2.1
    rw [← Int.natCast_mul] at this
    exact_mod_cast this
  have hpa : 0 < va.length := by rw [hla]; exact Nat.mul_pos (by omega) (by omega)
  have hpb : 0 < vb.length := by rw [hlb]; exact Nat.mul_pos (by omega) (by omega)
  obtain ⟨ba, oa, rfl, hra⟩ := HVa.out.next HB5.out hpa
  obtain ⟨bb, ob, rfl, hrb⟩ := HVb.out.next HB5.out hpb
  have HA := Lib.hid ha
  have HBb := Lib.hid hb
  have HLA := Lib.hid hla
  have HRa := Lib.hid hra
  have HRb := Lib.hid hrb
  have HVr1 := Lib.hid hvr1
  have HVr2 := Lib.hid hvr2
  clear f1 f2 hvr1 hvr2 hC' k4 k5 g4 g5 ha hb hla hlb
  generalize C' = C at *
  have hwr : IntKind.i64.wrap ((Rn : Int) + (R2 : Int)) = (Rn : Int) + (R2 : Int) := IntWalk.i64_in _ (by omega)
  have HWr := Lib.hid hwr
  clear hwr
  go_cut [5] from 111 (fun v5 wx => ∃ (qc : Nat) (G : Option Addr) (cg : Nat), v5 = .pointer (some ⟨qc, 0, none⟩) ∧ w5.heap.size ≤ qc ∧ Hid (Lies wx qc 24 #[.int .i64 ((Rn : Int) + (R2 : Int)), .int .i64 (C : Int), .slice G (va ++ vb).length cg]) ∧ Hid (VOwn wx w5.heap.size (.slice G (va ++ vb).length cg) (va ++ vb)) ∧ Hid (Below w5.heap.size w5 wx))
  case first =>
    have hqs : w.heap.size + 1 < w5.heap.size := by have := (HLb.out.next HB5.out).lt; exact this
    refine wp_region_inv' (by kernel_rfl) (by kernel_rfl) (fun a0 => 62 < a0.tmps.size ∧ a0.eval (.tmp 2) = .pointer (some ⟨w.heap.size, 0, none⟩) ∧ a0.eval (.tmp 3) = .pointer (some ⟨w.heap.size + 1, 0, none⟩)) (RB slots5 (tab5 w.heap.size Rn R2 C ba oa va.length ca bb ob vb.length cb) w5 ((Rn : Int) + (R2 : Int)) (C : Int) va vb) ⟨by simp, rfl, rfl⟩ (RB.start _ _ (Below.refl _ _).drew) ?_ ?_
    · rintro a0 ⟨hs, h2, h3⟩ listed a1 w1 i o hsz hI hun ho hdeps
      have hi := Up.of_false hun
      have hi17 : i < 17 := by rw [hsz] at hi; exact hi
      have hwr := HWr.out
      have k0 := (hI.bel.cell (p := ⟨w.heap.size, 0, none⟩) (by dsimp only; omega)).trans x0
      have k1 := (hI.bel.cell (p := ⟨w.heap.size, 1, none⟩) (by dsimp only; omega)).trans x1
      have k2 := (hI.bel.cell (p := ⟨w.heap.size, 2, none⟩) (by dsimp only; omega)).trans x2
      have m0 := (hI.bel.cell (p := ⟨w.heap.size + 1, 0, none⟩) (by dsimp only; omega)).trans z0
      have m2 := (hI.bel.cell (p := ⟨w.heap.size + 1, 2, none⟩) (by dsimp only; omega)).trans z2
      have e2 : a1.eval (.tmp 2) = .pointer (some ⟨w.heap.size, 0, none⟩) := (hI.off.eval (by decide)).trans h2
      have e3 : a1.eval (.tmp 3) = .pointer (some ⟨w.heap.size + 1, 0, none⟩) := (hI.off.eval (by decide)).trans h3
      clear h2 h3 x0 x1 x2 z0 z1 z2
      rcases (by omega : i = 0 ∨ i = 1 ∨ i = 2 ∨ i = 3 ∨ i = 4 ∨ i = 5 ∨ i = 6 ∨ i = 7 ∨ i = 8 ∨ i = 9 ∨ i = 10 ∨ i = 11 ∨ i = 12 ∨ i = 13 ∨ i = 14 ∨ i = 15 ∨ i = 16) with rfl | rfl | rfl | rfl | rfl | rfl | rfl | rfl | rfl | rfl | rfl | rfl | rfl | rfl | rfl | rfl | rfl
      · have ho2 := ho
        simp only [List.getElem?_toArray, List.getElem?_cons_zero, Option.some.injEq] at ho2
        subst ho2
        exact rb_pure (s := 48) (.pointer (some ⟨w.heap.size, 0, none⟩)) hI hun ho rfl rfl (by omega) (by decide) (by decide) (by decide) (tab5_eq (by simp)) (tab5_eq (by simp)) (by simp [execOp, go_sem, tget e2])
      · have ho2 := ho
        simp only [List.getElem?_toArray, List.getElem?_cons_zero, List.getElem?_cons_succ, Option.some.injEq] at ho2
        subst ho2
        have d0 := hdeps _ (List.mem_toArray.2 (List.mem_cons_self ..)) rfl
        have p48 : a1.eval (.tmp 48) = (.pointer (some ⟨w.heap.size, 0, none⟩)) := hI.pt (0, 48, (.pointer (some ⟨w.heap.size, 0, none⟩))) (by simp [tab5]) d0
        exact rb_pure (s := 49) (.int .i64 (Rn : Int)) hI hun ho rfl rfl (by omega) (by decide) (by decide) (by decide) (tab5_eq (by simp)) (tab5_eq (by simp)) (by simp [execOp, go_sem, tget p48, k0])
      · have ho2 := ho
        simp only [List.getElem?_toArray, List.getElem?_cons_zero, List.getElem?_cons_succ, Option.some.injEq] at ho2
        subst ho2
        exact rb_pure (s := 50) (.pointer (some ⟨w.heap.size + 1, 0, none⟩)) hI hun ho rfl rfl (by omega) (by decide) (by decide) (by decide) (tab5_eq (by simp)) (tab5_eq (by simp)) (by simp [execOp, go_sem, tget e3])
      · have ho2 := ho
        simp only [List.getElem?_toArray, List.getElem?_cons_zero, List.getElem?_cons_succ, Option.some.injEq] at ho2
        subst ho2
        have d2 := hdeps _ (List.mem_toArray.2 (List.mem_cons_self ..)) rfl
        have p50 : a1.eval (.tmp 50) = (.pointer (some ⟨w.heap.size + 1, 0, none⟩)) := hI.pt (2, 50, (.pointer (some ⟨w.heap.size + 1, 0, none⟩))) (by simp [tab5]) d2
        exact rb_pure (s := 51) (.int .i64 (R2 : Int)) hI hun ho rfl rfl (by omega) (by decide) (by decide) (by decide) (tab5_eq (by simp)) (tab5_eq (by simp)) (by simp [execOp, go_sem, tget p50, m0])
      · have ho2 := ho
        simp only [List.getElem?_toArray, List.getElem?_cons_zero, List.getElem?_cons_succ, Option.some.injEq] at ho2
        subst ho2
        have d1 := hdeps _ (List.mem_toArray.2 (List.mem_cons_self ..)) rfl
        have p49 : a1.eval (.tmp 49) = (.int .i64 (Rn : Int)) := hI.pt (1, 49, (.int .i64 (Rn : Int))) (by simp [tab5]) d1
        have d3 := hdeps _ (List.mem_toArray.2 (List.mem_cons_of_mem _ (List.mem_cons_self ..))) rfl
        have p51 : a1.eval (.tmp 51) = (.int .i64 (R2 : Int)) := hI.pt (3, 51, (.int .i64 (R2 : Int))) (by simp [tab5]) d3
        exact rb_pure (s := 52) (.int .i64 ((Rn : Int) + (R2 : Int))) hI hun ho rfl rfl (by omega) (by decide) (by decide) (by decide) (tab5_eq (by simp)) (tab5_eq (by simp)) (by simp [execOp, go_sem, tget p49, tget p51, hwr])
      · have ho2 := ho
        simp only [List.getElem?_toArray, List.getElem?_cons_zero, List.getElem?_cons_succ, Option.some.injEq] at ho2
        subst ho2
        exact rb_pure (s := 53) (.pointer (some ⟨w.heap.size, 1, none⟩)) hI hun ho rfl rfl (by omega) (by decide) (by decide) (by decide) (tab5_eq (by simp)) (tab5_eq (by simp)) (by simp [execOp, go_sem, tget e2])
      · have ho2 := ho
        simp only [List.getElem?_toArray, List.getElem?_cons_zero, List.getElem?_cons_succ, Option.some.injEq] at ho2
        subst ho2
        have d5 := hdeps _ (List.mem_toArray.2 (List.mem_cons_self ..)) rfl
        have p53 : a1.eval (.tmp 53) = (.pointer (some ⟨w.heap.size, 1, none⟩)) := hI.pt (5, 53, (.pointer (some ⟨w.heap.size, 1, none⟩))) (by simp [tab5]) d5
        exact rb_pure (s := 54) (.int .i64 (C : Int)) hI hun ho rfl rfl (by omega) (by decide) (by decide) (by decide) (tab5_eq (by simp)) (tab5_eq (by simp)) (by simp [execOp, go_sem, tget p53, k1])
      · have ho2 := ho
        simp only [List.getElem?_toArray, List.getElem?_cons_zero, List.getElem?_cons_succ, Option.some.injEq] at ho2
        subst ho2
        exact rb_made hI hun ho rfl rfl hs (by decide) (tab5_eq (by simp)) (tab5_eq (by simp)) (fun W => by simp [execOp, go_sem])
      · have ho2 := ho
        simp only [List.getElem?_toArray, List.getElem?_cons_zero, List.getElem?_cons_succ, Option.some.injEq] at ho2
        subst ho2
        exact rb_pure (s := 56) (.pointer (some ⟨w.heap.size, 2, none⟩)) hI hun ho rfl rfl (by omega) (by decide) (by decide) (by decide) (tab5_eq (by simp)) (tab5_eq (by simp)) (by simp [execOp, go_sem, tget e2])
      · have ho2 := ho
        simp only [List.getElem?_toArray, List.getElem?_cons_zero, List.getElem?_cons_succ, Option.some.injEq] at ho2
        subst ho2
        have d8 := hdeps _ (List.mem_toArray.2 (List.mem_cons_self ..)) rfl
        have p56 : a1.eval (.tmp 56) = (.pointer (some ⟨w.heap.size, 2, none⟩)) := hI.pt (8, 56, (.pointer (some ⟨w.heap.size, 2, none⟩))) (by simp [tab5]) d8
        exact rb_pure (s := 57) (.slice (some ⟨ba, oa, none⟩) va.length ca) hI hun ho rfl rfl (by omega) (by decide) (by decide) (by decide) (tab5_eq (by simp)) (tab5_eq (by simp)) (by simp [execOp, go_sem, tget p56, k2])
      · have ho2 := ho
        simp only [List.getElem?_toArray, List.getElem?_cons_zero, List.getElem?_cons_succ, Option.some.injEq] at ho2
        subst ho2
        have d7 := hdeps _ (List.mem_toArray.2 (List.mem_cons_self ..)) rfl
        have d9 := hdeps _ (List.mem_toArray.2 (List.mem_cons_of_mem _ (List.mem_cons_self ..))) rfl
        have p57 : a1.eval (.tmp 57) = (.slice (some ⟨ba, oa, none⟩) va.length ca) := hI.pt (9, 57, (.slice (some ⟨ba, oa, none⟩) va.length ca)) (by simp [tab5]) d9
        exact rb_app1 hI hun ho rfl rfl hs (by decide) (tab5_eq (by simp)) (tab5_eq (by simp)) d7 rfl p57 hra (by omega)
      · have ho2 := ho
        simp only [List.getElem?_toArray, List.getElem?_cons_zero, List.getElem?_cons_succ, Option.some.injEq] at ho2
        subst ho2
        exact rb_pure (s := 59) (.pointer (some ⟨w.heap.size + 1, 2, none⟩)) hI hun ho rfl rfl (by omega) (by decide) (by decide) (by decide) (tab5_eq (by simp)) (tab5_eq (by simp)) (by simp [execOp, go_sem, tget e3])
      · have ho2 := ho
        simp only [List.getElem?_toArray, List.getElem?_cons_zero, List.getElem?_cons_succ, Option.some.injEq] at ho2
        subst ho2
        have d11 := hdeps _ (List.mem_toArray.2 (List.mem_cons_self ..)) rfl
        have p59 : a1.eval (.tmp 59) = (.pointer (some ⟨w.heap.size + 1, 2, none⟩)) := hI.pt (11, 59, (.pointer (some ⟨w.heap.size + 1, 2, none⟩))) (by simp [tab5]) d11
        exact rb_pure (s := 60) (.slice (some ⟨bb, ob, none⟩) vb.length cb) hI hun ho rfl rfl (by omega) (by decide) (by decide) (by decide) (tab5_eq (by simp)) (tab5_eq (by simp)) (by simp [execOp, go_sem, tget p59, m2])
      · have ho2 := ho
        simp only [List.getElem?_toArray, List.getElem?_cons_zero, List.getElem?_cons_succ, Option.some.injEq] at ho2
        subst ho2
        have d10 := hdeps _ (List.mem_toArray.2 (List.mem_cons_self ..)) rfl
        have d12 := hdeps _ (List.mem_toArray.2 (List.mem_cons_of_mem _ (List.mem_cons_self ..))) rfl
        have p60 : a1.eval (.tmp 60) = (.slice (some ⟨bb, ob, none⟩) vb.length cb) := hI.pt (12, 60, (.slice (some ⟨bb, ob, none⟩) vb.length cb)) (by simp [tab5]) d12
        exact rb_app2 hI hun ho rfl rfl hs (by decide) (tab5_eq (by simp)) (tab5_eq (by simp)) d10 rfl p60 hrb (by omega)
      · have ho2 := ho
        simp only [List.getElem?_toArray, List.getElem?_cons_zero, List.getElem?_cons_succ, Option.some.injEq] at ho2
        subst ho2
        have d4 := hdeps _ (List.mem_toArray.2 (List.mem_cons_self ..)) rfl
        have p52 : a1.eval (.tmp 52) = (.int .i64 ((Rn : Int) + (R2 : Int))) := hI.pt (4, 52, (.int .i64 ((Rn : Int) + (R2 : Int)))) (by simp [tab5]) d4
        have d6 := hdeps _ (List.mem_toArray.2 (List.mem_cons_of_mem _ (List.mem_cons_self ..))) rfl
        have p54 : a1.eval (.tmp 54) = (.int .i64 (C : Int)) := hI.pt (6, 54, (.int .i64 (C : Int))) (by simp [tab5]) d6
        have d13 := hdeps _ (List.mem_toArray.2 (List.mem_cons_of_mem _ (List.mem_cons_of_mem _ (List.mem_cons_self ..)))) rfl
        obtain ⟨A9, c9, e61⟩ := own_slice (hI.b13 d13).2
        exact rb_build hI hun ho rfl rfl hs (by decide) (tab5_eq (by simp)) (tab5_eq (by simp)) d13 (by rw [e61]; simp [execOp, go_sem, tget p52, tget p54, tget e61])
      · have ho2 := ho
        simp only [List.getElem?_toArray, List.getElem?_cons_zero, List.getElem?_cons_succ, Option.some.injEq] at ho2
        subst ho2
        exact rb_alloc hI hun ho rfl rfl hs (by decide) (tab5_eq (by simp)) (tab5_eq (by simp)) (fun W => by simp [execOp, go_sem, zArr])
      · have ho2 := ho
        simp only [List.getElem?_toArray, List.getElem?_cons_zero, List.getElem?_cons_succ, Option.some.injEq] at ho2
        subst ho2
        have d15 := hdeps _ (List.mem_toArray.2 (List.mem_cons_self ..)) rfl
        have d14 := hdeps _ (List.mem_toArray.2 (List.mem_cons_of_mem _ (List.mem_cons_self ..))) rfl
        exact rb_store hI hun ho rfl rfl d14 d15 (tab5_eq (by simp)) (fun bx g1 g2 g3 g4 => by
          obtain ⟨A9, c9, g4⟩ := g4
          unfold zArr at g2
          have c0 := g2.cell 0
          have c1 := g2.cell 1
          have c2 := g2.cell 2
          have k0 := g2.frozen 0
          have k1 := g2.frozen 1
          have k2 := g2.frozen 2
          simp at c0 c1 c2
          rw [g4] at g3
          simp [execOp, go_sem, tget g1, tget g3, tget g4, c0, c1, c2, k0, k1, k2])
    · intro listed a1 w1 hI hup
      obtain ⟨bx, b1, b2, -, b4⟩ := hI.al (hup 15 (by decide))
      have hl2 := b4 (hup 16 (by decide))
      obtain ⟨-, hv13⟩ := hI.b13 (hup 13 (by decide))
      obtain ⟨G, cg, hsl⟩ := own_slice hv13
      rw [hsl] at hl2 hv13
      have hbel := hI.bel
      obtain ⟨f, rfl, hf⟩ := hI.off.forms
      have h5 : f 5 = .pointer (some ⟨bx, 0, none⟩) := (hf 5).trans b1
      clear hI
      simp only [List.foldl, Act.put, List.setIfInBounds_toArray, List.set, h5]
      simp only [Exit.then]
      go_step
      go_meet
      exact ⟨bx, G, cg, rfl, b2, Lib.hid hl2, Lib.hid hv13, Lib.hid hbel⟩
  case rest =>
    obtain ⟨qc, G, cg, rfl, hqc, hLc, hVc, hBc⟩ := hcut
    obtain ⟨vc, hvc⟩ : ∃ vc, va ++ vb = vc := ⟨_, rfl⟩
    rw [hvc] at hLc hVc
    have hwb : cWrite ((Rn : Int) + (R2 : Int)) (C : Int) vc = cWrite (Rn : Int) (C : Int) va ++ cWrite (R2 : Int) (C : Int) vb := by rw [← hvc]; exact write_below HA.out HBb.out (by omega)
    have hvcr : ∀ v ∈ vc, vRight v = true := fun v hm => by
      rw [← hvc] at hm
      rcases List.mem_append.1 hm with hm | hm
      · exact HVr1.out v hm
      · exact HVr2.out v hm
    have HBX : Hid (Below W0.heap.size W0 wc) := Lib.hid (HB5.out.trans (hBc.out.mono HB5.out.size))
    have hwla : (cWrite (Rn : Int) (C : Int) va).length ≤ 1000000 := by
      have h1 := write_len _ _ _ HA.out
      have h2 := oSum_le va HVr1.out
      omega
    have hwlb : (cWrite (R2 : Int) (C : Int) vb).length ≤ 1000000 := by
      have h1 := write_len _ _ _ HBb.out
      have h2 := oSum_le vb HVr2.out
      omega
    have KA : Hid (∀ W', Below wc.heap.size wc W' → Calls Tryz.prog 8 #[.agg #[.int .i64 (Rn : Int), .int .i64 (C : Int), .slice (some ⟨ba, oa, none⟩) va.length ca]] W' fun e w' => e = .returned (.string ⟨(cWrite (Rn : Int) (C : Int) va).toArray⟩) ∧ Below W'.heap.size W' w') :=
      Lib.hid (fun W' hb => write32_any _ _ _ _ _ W' HR.out.1 HR.out.2 ((HVa.out.next HBX.out).next hb) (fun v hv => right_sane (HVr1.out v hv)) ((HT.out.next HBX.out).next hb) ((HP.out.next HBX.out).next hb) ((HM.out.next HBX.out).next hb))
    have KB : Hid (∀ W', Below wc.heap.size wc W' → Calls Tryz.prog 8 #[.agg #[.int .i64 (R2 : Int), .int .i64 (C : Int), .slice (some ⟨bb, ob, none⟩) vb.length cb]] W' fun e w' => e = .returned (.string ⟨(cWrite (R2 : Int) (C : Int) vb).toArray⟩) ∧ Below W'.heap.size W' w') :=
      Lib.hid (fun W' hb => write32_any _ _ _ _ _ W' HR2.out.1 HR2.out.2 ((HVb.out.next HBX.out).next hb) (fun v hv => right_sane (HVr2.out v hv)) ((HT.out.next HBX.out).next hb) ((HP.out.next HBX.out).next hb) ((HM.out.next HBX.out).next hb))
    have KC : Hid (∀ W', Below wc.heap.size wc W' → Calls Tryz.prog 8 #[.agg #[.int .i64 ((Rn : Int) + (R2 : Int)), .int .i64 (C : Int), .slice G vc.length cg]] W' fun e w' => e = .returned (.string ⟨(cWrite (Rn : Int) (C : Int) va ++ cWrite (R2 : Int) (C : Int) vb).toArray⟩) ∧ Below W'.heap.size W' w') :=
      Lib.hid (fun W' hb => by
        rw [← hwb]
        exact write32_any _ _ _ _ _ W' (by omega) (by omega) ((VOwn.vsl hVc.out).2.next hb) (fun v hv => right_sane (hvcr v hv)) ((HT.out.next HBX.out).next hb) ((HP.out.next HBX.out).next hb) ((HM.out.next HBX.out).next hb))
    have T0 : Hid (B3 wc w.heap.size qc (Rn : Int) (C : Int) (R2 : Int) (some ⟨ba, oa, none⟩) (some ⟨bb, ob, none⟩) G va.length ca vb.length cb vc.length cg wc) := Lib.hid
      ⟨(HLa.out.next HBX.out).cell 0, (HLa.out.next HBX.out).cell 1, (HLa.out.next HBX.out).cell 2, (HLb.out.next HBX.out).cell 0, (HLb.out.next HBX.out).cell 1, (HLb.out.next HBX.out).cell 2, hLc.out.cell 0, hLc.out.cell 1, hLc.out.cell 2, (HLa.out.next HBX.out).lt, (HLb.out.next HBX.out).lt, hLc.out.lt, Below.refl _ _⟩
    clear x0 x1 x2 z0 z1 z2 hwb hvcr hvc
    generalize hWA : cWrite (Rn : Int) (C : Int) va = wa at *
    generalize hWB : cWrite (R2 : Int) (C : Int) vb = wb at *
    have hsum : ¬ 9223372036854775807 < wa.length + wb.length := by omega
    have HWA := Lib.hid hWA
    clear hWA hWB hwlb
    go_upto_region 6 with fail
    go_cut [70] from 111 (fun v wx => v = .bool false ∧ Hid (Below wc.heap.size wc wx))
    case first =>
      go_region_held3 (fun w' => w'.cell? ⟨w.heap.size, 0, none⟩ = some (.int .i64 (Rn : Int)) ∧ w'.cell? ⟨w.heap.size, 1, none⟩ = some (.int .i64 (C : Int)) ∧ w'.cell? ⟨w.heap.size, 2, none⟩ = some (.slice (some ⟨ba, oa, none⟩) va.length ca) ∧ w'.cell? ⟨w.heap.size + 1, 0, none⟩ = some (.int .i64 (R2 : Int)) ∧ w'.cell? ⟨w.heap.size + 1, 1, none⟩ = some (.int .i64 (C : Int)) ∧ w'.cell? ⟨w.heap.size + 1, 2, none⟩ = some (.slice (some ⟨bb, ob, none⟩) vb.length cb) ∧ w'.cell? ⟨qc, 0, none⟩ = some (.int .i64 ((Rn : Int) + (R2 : Int))) ∧ w'.cell? ⟨qc, 1, none⟩ = some (.int .i64 (C : Int)) ∧ w'.cell? ⟨qc, 2, none⟩ = some (.slice G vc.length cg) ∧ w.heap.size < w'.heap.size ∧ w.heap.size + 1 < w'.heap.size ∧ qc < w'.heap.size ∧ Below wc.heap.size wc w')
        (first | exact B3.all T0.out | exact B3.all (T0.out.next (Below.refl _ _).drew) | exact B3.all (B3.next (B3.next T0.out (Below.refl _ _).drew) hb) | (go_split_ands; exact B3.all (B3.next (X := wc) ⟨by assumption, by assumption, by assumption, by assumption, by assumption, by assumption, by assumption, by assumption, by assumption, by assumption, by assumption, by assumption, by assumption⟩ hb)))
        (first
          | (go_at_call 8; (with_reducible refine (KA.out _ ?hbw).mono ?_); (case hbw => (first | assumption | exact (Below.refl _ _).drew | (go_split_ands; assumption))); rintro x wx ⟨rfl, hb⟩)
          | (go_at_call 8; (with_reducible refine (KB.out _ ?hbw).mono ?_); (case hbw => (first | assumption | exact (Below.refl _ _).drew | (go_split_ands; assumption))); rintro x wx ⟨rfl, hb⟩)
          | (go_at_call 8; (with_reducible refine (KC.out _ ?hbw).mono ?_); (case hbw => (first | assumption | exact (Below.refl _ _).drew | (go_split_ands; assumption))); rintro x wx ⟨rfl, hb⟩))
      all_goals go_wp2_with fail
      all_goals go_meet
      all_goals refine ⟨rfl, Lib.hid ?_⟩
      all_goals first | assumption | (go_split_ands; assumption)
    case rest =>
      obtain ⟨rfl, hBd⟩ := hcut
      have HBY := Lib.hid (HBX.out.trans (hBd.out.mono HBX.out.size))
      go_wp2_with fail
      go_loopw [6] (fun v6 wr => ∃ i : Nat, v6 = .int .i64 (i : Int) ∧ i ≤ Rn ∧ Hid (Below W0.heap.size W0 wr)) (fun v6 _ => Rn - (intOf v6).toNat)
      case atStart => exact ⟨0, rfl, Nat.zero_le _, HBY⟩
      case round =>
        obtain ⟨i, rfl, hi, hbr⟩ := hrel
        clear HBY
        have x0 := (HLa.out.next hbr.out).cell 0
        have x1 := (HLa.out.next hbr.out).cell 1
        have x2 := (HLa.out.next hbr.out).cell 2
        simp only [List.getElem?_toArray, List.getElem?_cons_zero, List.getElem?_cons_succ] at x0 x1 x2
        by_cases hlt : i < Rn
        · have hqr : w.heap.size < wr.heap.size := (HLa.out.next hbr.out).lt
          obtain ⟨M, hM⟩ : ∃ M, i * C = M := ⟨_, rfl⟩
          obtain ⟨M2, hM2⟩ : ∃ M2, (i + 1) * C = M2 := ⟨_, rfl⟩
          have hMM : M2 = M + C := by rw [← hM, ← hM2, Nat.add_mul, Nat.one_mul]
          have hM2l : M2 ≤ va.length := by rw [HLA.out, ← hM2]; exact Nat.mul_le_mul_right C hlt
          have hcap := HCa.out
          have hm1 : (i : Int) * (C : Int) = (M : Int) := by rw [← hM]; simp
          have hm2 : ((i : Int) + 1) * (C : Int) = (M2 : Int) := by rw [← hM2]; simp
          have hrow := row_right HA.out i (by omega)
          rw [Int.toNat_natCast, hM] at hrow
          have hrl : ((va.drop M).take C).length = M2 - M := by rw [List.length_take, List.length_drop]; omega
          have HRow : Hid (VSl wr (some ⟨ba, oa + M * 6, none⟩) ((va.drop M).take C)) := Lib.hid (fun _ => by
            obtain ⟨b', o', e, hr'⟩ := HVa.out.next hbr.out hpa
            injection e with e
            injection e with e1 e2 _
            subst e1 e2
            exact ⟨_, _, rfl, vrow_sub hr' M C⟩)
          have HMl := Lib.hid hM2l
          have HCap := Lib.hid hcap
          have HFa := Lib.hid (⟨hm1, hm2, hMM⟩ : _ ∧ _ ∧ _)
          have HRR := Lib.hid hrow
          have HRl := Lib.hid hrl
          generalize (va.drop M).take C = row at *
          clear hM hM2 hcap hrow hM2l hMM hm1 hm2 hrl
          go_upto_region 11 with fail
          go_cut [7] from 111 (fun v7 wx => ∃ bx : Nat, v7 = .pointer (some ⟨bx, 0, none⟩) ∧ wr.heap.size ≤ bx ∧ Hid (Lies wx bx 24 #[.int .i64 1, .int .i64 (C : Int), .slice (some ⟨ba, oa + M * 6, none⟩) (M2 - M) (ca - M)]) ∧ Hid (Below wr.heap.size wr wx))
          case first =>
            refine wp_region_inv' (by kernel_rfl) (by kernel_rfl) (fun a0 => 91 < a0.tmps.size ∧ a0.eval (.tmp 2) = .pointer (some ⟨w.heap.size, 0, none⟩) ∧ a0.eval (.tmp 6) = .int .i64 (i : Int)) (RA slots11 (tab11 w.heap.size C ba oa va.length ca i M M2) wr 15 7 16 (.int .i64 1) (.int .i64 (C : Int)) (.slice (some ⟨ba, oa + M * 6, none⟩) (M2 - M) (ca - M))) ⟨by simp, rfl, rfl⟩ (RA.start _ _ (Below.refl _ _).drew) ?_ ?_
            · rintro a0 ⟨hs, h2, h6⟩ listed a1 w1 j o hsz hI hun ho hdeps
              have hj := Up.of_false hun
              have hj17 : j < 17 := by rw [hsz] at hj; exact hj
              obtain ⟨hm1, hm2, hMM⟩ := HFa.out
              have hM2l := HMl.out
              have hcap := HCap.out
              have hs1 : M2 ≤ ca := by omega
              have hs2 : M ≤ M2 := by omega
              have hs3 : ¬ ca = M := by omega
              have hw1 : IntKind.i64.wrap (M : Int) = (M : Int) := IntWalk.i64_in _ (by omega)
              have hw2 : IntKind.i64.wrap (M2 : Int) = (M2 : Int) := IntWalk.i64_in _ (by omega)
              have hwi : IntKind.i64.wrap ((i : Int) + 1) = (i : Int) + 1 := IntWalk.i64_in _ (by omega)
              have k1 := (hI.bel.cell (p := ⟨w.heap.size, 1, none⟩) (by dsimp only; omega)).trans x1
              have k2 := (hI.bel.cell (p := ⟨w.heap.size, 2, none⟩) (by dsimp only; omega)).trans x2
              have e2 : a1.eval (.tmp 2) = .pointer (some ⟨w.heap.size, 0, none⟩) := (hI.off.eval (by decide)).trans h2
              have e6 : a1.eval (.tmp 6) = .int .i64 (i : Int) := (hI.off.eval (by decide)).trans h6
              clear h2 h6 x0 x1 x2
              rcases (by omega : j = 0 ∨ j = 1 ∨ j = 2 ∨ j = 3 ∨ j = 4 ∨ j = 5 ∨ j = 6 ∨ j = 7 ∨ j = 8 ∨ j = 9 ∨ j = 10 ∨ j = 11 ∨ j = 12 ∨ j = 13 ∨ j = 14 ∨ j = 15 ∨ j = 16) with rfl | rfl | rfl | rfl | rfl | rfl | rfl | rfl | rfl | rfl | rfl | rfl | rfl | rfl | rfl | rfl | rfl
              · have ho2 := ho
                simp only [List.getElem?_toArray, List.getElem?_cons_zero, Option.some.injEq] at ho2
                subst ho2
                exact ra_pure (s := 77) (.pointer (some ⟨w.heap.size, 1, none⟩)) hI hun ho rfl rfl (by omega) (by decide) (by decide) (by decide) (by decide) (tab11_eq (by simp)) (tab11_eq (by simp)) (by simp [execOp, go_sem, tget e2])
              · have ho2 := ho
                simp only [List.getElem?_toArray, List.getElem?_cons_zero, List.getElem?_cons_succ, Option.some.injEq] at ho2
                subst ho2
                have d0 := hdeps _ (List.mem_toArray.2 (List.mem_cons_self ..)) rfl
                have p77 : a1.eval (.tmp 77) = (.pointer (some ⟨w.heap.size, 1, none⟩)) := hI.pt (0, 77, (.pointer (some ⟨w.heap.size, 1, none⟩))) (by simp [tab11]) d0
                exact ra_pure (s := 78) (.int .i64 (C : Int)) hI hun ho rfl rfl (by omega) (by decide) (by decide) (by decide) (by decide) (tab11_eq (by simp)) (tab11_eq (by simp)) (by simp [execOp, go_sem, tget p77, k1])
              · have ho2 := ho
                simp only [List.getElem?_toArray, List.getElem?_cons_zero, List.getElem?_cons_succ, Option.some.injEq] at ho2
                subst ho2
                exact ra_pure (s := 79) (.pointer (some ⟨w.heap.size, 2, none⟩)) hI hun ho rfl rfl (by omega) (by decide) (by decide) (by decide) (by decide) (tab11_eq (by simp)) (tab11_eq (by simp)) (by simp [execOp, go_sem, tget e2])
              · have ho2 := ho
                simp only [List.getElem?_toArray, List.getElem?_cons_zero, List.getElem?_cons_succ, Option.some.injEq] at ho2
                subst ho2
                have d2 := hdeps _ (List.mem_toArray.2 (List.mem_cons_self ..)) rfl
                have p79 : a1.eval (.tmp 79) = (.pointer (some ⟨w.heap.size, 2, none⟩)) := hI.pt (2, 79, (.pointer (some ⟨w.heap.size, 2, none⟩))) (by simp [tab11]) d2
                exact ra_pure (s := 80) (.slice (some ⟨ba, oa, none⟩) va.length ca) hI hun ho rfl rfl (by omega) (by decide) (by decide) (by decide) (by decide) (tab11_eq (by simp)) (tab11_eq (by simp)) (by simp [execOp, go_sem, tget p79, k2])
              · have ho2 := ho
                simp only [List.getElem?_toArray, List.getElem?_cons_zero, List.getElem?_cons_succ, Option.some.injEq] at ho2
                subst ho2
                exact ra_pure (s := 81) (.int .i64 (i : Int)) hI hun ho rfl rfl (by omega) (by decide) (by decide) (by decide) (by decide) (tab11_eq (by simp)) (tab11_eq (by simp)) (by simp [execOp, go_sem, tget e6])
              · have ho2 := ho
                simp only [List.getElem?_toArray, List.getElem?_cons_zero, List.getElem?_cons_succ, Option.some.injEq] at ho2
                subst ho2
                exact ra_pure (s := 82) (.pointer (some ⟨w.heap.size, 1, none⟩)) hI hun ho rfl rfl (by omega) (by decide) (by decide) (by decide) (by decide) (tab11_eq (by simp)) (tab11_eq (by simp)) (by simp [execOp, go_sem, tget e2])
              · have ho2 := ho
                simp only [List.getElem?_toArray, List.getElem?_cons_zero, List.getElem?_cons_succ, Option.some.injEq] at ho2
                subst ho2
                have d5 := hdeps _ (List.mem_toArray.2 (List.mem_cons_self ..)) rfl
                have p82 : a1.eval (.tmp 82) = (.pointer (some ⟨w.heap.size, 1, none⟩)) := hI.pt (5, 82, (.pointer (some ⟨w.heap.size, 1, none⟩))) (by simp [tab11]) d5
                exact ra_pure (s := 83) (.int .i64 (C : Int)) hI hun ho rfl rfl (by omega) (by decide) (by decide) (by decide) (by decide) (tab11_eq (by simp)) (tab11_eq (by simp)) (by simp [execOp, go_sem, tget p82, k1])
              · have ho2 := ho
                simp only [List.getElem?_toArray, List.getElem?_cons_zero, List.getElem?_cons_succ, Option.some.injEq] at ho2
                subst ho2
                have d4 := hdeps _ (List.mem_toArray.2 (List.mem_cons_self ..)) rfl
                have p81 : a1.eval (.tmp 81) = (.int .i64 (i : Int)) := hI.pt (4, 81, (.int .i64 (i : Int))) (by simp [tab11]) d4
                have d6 := hdeps _ (List.mem_toArray.2 (List.mem_cons_of_mem _ (List.mem_cons_self ..))) rfl
                have p83 : a1.eval (.tmp 83) = (.int .i64 (C : Int)) := hI.pt (6, 83, (.int .i64 (C : Int))) (by simp [tab11]) d6
                exact ra_pure (s := 84) (.int .i64 (M : Int)) hI hun ho rfl rfl (by omega) (by decide) (by decide) (by decide) (by decide) (tab11_eq (by simp)) (tab11_eq (by simp)) (by simp [execOp, go_sem, tget p81, tget p83, hm1, hw1])
              · have ho2 := ho
                simp only [List.getElem?_toArray, List.getElem?_cons_zero, List.getElem?_cons_succ, Option.some.injEq] at ho2
                subst ho2
                exact ra_pure (s := 85) (.int .i64 (i : Int)) hI hun ho rfl rfl (by omega) (by decide) (by decide) (by decide) (by decide) (tab11_eq (by simp)) (tab11_eq (by simp)) (by simp [execOp, go_sem, tget e6])
              · have ho2 := ho
                simp only [List.getElem?_toArray, List.getElem?_cons_zero, List.getElem?_cons_succ, Option.some.injEq] at ho2
                subst ho2
                have d8 := hdeps _ (List.mem_toArray.2 (List.mem_cons_self ..)) rfl
                have p85 : a1.eval (.tmp 85) = (.int .i64 (i : Int)) := hI.pt (8, 85, (.int .i64 (i : Int))) (by simp [tab11]) d8
                exact ra_pure (s := 86) (.int .i64 ((i : Int) + 1)) hI hun ho rfl rfl (by omega) (by decide) (by decide) (by decide) (by decide) (tab11_eq (by simp)) (tab11_eq (by simp)) (by simp [execOp, go_sem, tget p85, hwi])
              · have ho2 := ho
                simp only [List.getElem?_toArray, List.getElem?_cons_zero, List.getElem?_cons_succ, Option.some.injEq] at ho2
                subst ho2
                exact ra_pure (s := 87) (.pointer (some ⟨w.heap.size, 1, none⟩)) hI hun ho rfl rfl (by omega) (by decide) (by decide) (by decide) (by decide) (tab11_eq (by simp)) (tab11_eq (by simp)) (by simp [execOp, go_sem, tget e2])
              · have ho2 := ho
                simp only [List.getElem?_toArray, List.getElem?_cons_zero, List.getElem?_cons_succ, Option.some.injEq] at ho2
                subst ho2
                have d10 := hdeps _ (List.mem_toArray.2 (List.mem_cons_self ..)) rfl
                have p87 : a1.eval (.tmp 87) = (.pointer (some ⟨w.heap.size, 1, none⟩)) := hI.pt (10, 87, (.pointer (some ⟨w.heap.size, 1, none⟩))) (by simp [tab11]) d10
                exact ra_pure (s := 88) (.int .i64 (C : Int)) hI hun ho rfl rfl (by omega) (by decide) (by decide) (by decide) (by decide) (tab11_eq (by simp)) (tab11_eq (by simp)) (by simp [execOp, go_sem, tget p87, k1])
              · have ho2 := ho
                simp only [List.getElem?_toArray, List.getElem?_cons_zero, List.getElem?_cons_succ, Option.some.injEq] at ho2
                subst ho2
                have d9 := hdeps _ (List.mem_toArray.2 (List.mem_cons_self ..)) rfl
                have p86 : a1.eval (.tmp 86) = (.int .i64 ((i : Int) + 1)) := hI.pt (9, 86, (.int .i64 ((i : Int) + 1))) (by simp [tab11]) d9
                have d11 := hdeps _ (List.mem_toArray.2 (List.mem_cons_of_mem _ (List.mem_cons_self ..))) rfl
                have p88 : a1.eval (.tmp 88) = (.int .i64 (C : Int)) := hI.pt (11, 88, (.int .i64 (C : Int))) (by simp [tab11]) d11
                exact ra_pure (s := 89) (.int .i64 (M2 : Int)) hI hun ho rfl rfl (by omega) (by decide) (by decide) (by decide) (by decide) (tab11_eq (by simp)) (tab11_eq (by simp)) (by simp [execOp, go_sem, tget p86, tget p88, hm2, hw2])
              · have ho2 := ho
                simp only [List.getElem?_toArray, List.getElem?_cons_zero, List.getElem?_cons_succ, Option.some.injEq] at ho2
                subst ho2
                have d3 := hdeps _ (List.mem_toArray.2 (List.mem_cons_self ..)) rfl
                have p80 : a1.eval (.tmp 80) = (.slice (some ⟨ba, oa, none⟩) va.length ca) := hI.pt (3, 80, (.slice (some ⟨ba, oa, none⟩) va.length ca)) (by simp [tab11]) d3
                have d7 := hdeps _ (List.mem_toArray.2 (List.mem_cons_of_mem _ (List.mem_cons_self ..))) rfl
                have p84 : a1.eval (.tmp 84) = (.int .i64 (M : Int)) := hI.pt (7, 84, (.int .i64 (M : Int))) (by simp [tab11]) d7
                have d12 := hdeps _ (List.mem_toArray.2 (List.mem_cons_of_mem _ (List.mem_cons_of_mem _ (List.mem_cons_self ..)))) rfl
                have p89 : a1.eval (.tmp 89) = (.int .i64 (M2 : Int)) := hI.pt (12, 89, (.int .i64 (M2 : Int))) (by simp [tab11]) d12
                exact ra_pure (s := 90) (.slice (some ⟨ba, oa + M * 6, none⟩) (M2 - M) (ca - M)) hI hun ho rfl rfl (by omega) (by decide) (by decide) (by decide) (by decide) (tab11_eq (by simp)) (tab11_eq (by simp)) (by simp [execOp, go_sem, tget p80, tget p84, tget p89, hs1, hs2, hs3])
              · have ho2 := ho
                simp only [List.getElem?_toArray, List.getElem?_cons_zero, List.getElem?_cons_succ, Option.some.injEq] at ho2
                subst ho2
                have d1 := hdeps _ (List.mem_toArray.2 (List.mem_cons_self ..)) rfl
                have p78 : a1.eval (.tmp 78) = (.int .i64 (C : Int)) := hI.pt (1, 78, (.int .i64 (C : Int))) (by simp [tab11]) d1
                have d13 := hdeps _ (List.mem_toArray.2 (List.mem_cons_of_mem _ (List.mem_cons_self ..))) rfl
                have p90 : a1.eval (.tmp 90) = (.slice (some ⟨ba, oa + M * 6, none⟩) (M2 - M) (ca - M)) := hI.pt (13, 90, (.slice (some ⟨ba, oa + M * 6, none⟩) (M2 - M) (ca - M))) (by simp [tab11]) d13
                exact ra_pure (s := 91) (.agg #[.int .i64 1, .int .i64 (C : Int), .slice (some ⟨ba, oa + M * 6, none⟩) (M2 - M) (ca - M)]) hI hun ho rfl rfl (by omega) (by decide) (by decide) (by decide) (by decide) (tab11_eq (by simp)) (tab11_eq (by simp)) (by simp [execOp, go_sem, tget p78, tget p90])
              · have ho2 := ho
                simp only [List.getElem?_toArray, List.getElem?_cons_zero, List.getElem?_cons_succ, Option.some.injEq] at ho2
                subst ho2
                exact ra_alloc hI hun ho rfl rfl (by omega) (by decide) (by decide) (tab11_eq (by simp)) (tab11_eq (by simp)) (fun W => by simp [execOp, go_sem, zArr])
              · have ho2 := ho
                simp only [List.getElem?_toArray, List.getElem?_cons_zero, List.getElem?_cons_succ, Option.some.injEq] at ho2
                subst ho2
                have d15 := hdeps _ (List.mem_toArray.2 (List.mem_cons_self ..)) rfl
                have d14 := hdeps _ (List.mem_toArray.2 (List.mem_cons_of_mem _ (List.mem_cons_self ..))) rfl
                have p91 : a1.eval (.tmp 91) = (.agg #[.int .i64 1, .int .i64 (C : Int), .slice (some ⟨ba, oa + M * 6, none⟩) (M2 - M) (ca - M)]) := hI.pt (14, 91, (.agg #[.int .i64 1, .int .i64 (C : Int), .slice (some ⟨ba, oa + M * 6, none⟩) (M2 - M) (ca - M)])) (by simp [tab11]) d14
                exact ra_store hI hun ho rfl rfl d15 (tab11_eq (by simp)) (fun bx g1 g2 => by
                  unfold zArr at g2
                  have c0 := g2.cell 0
                  have c1 := g2.cell 1
                  have c2 := g2.cell 2
                  have k0 := g2.frozen 0
                  have k1 := g2.frozen 1
                  have k2 := g2.frozen 2
                  simp at c0 c1 c2
                  simp [execOp, go_sem, tget g1, tget p91, c0, c1, c2, k0, k1, k2])
            · intro listed a1 w1 hI hup
              obtain ⟨bx, b1, b2, -, b4⟩ := hI.al (hup 15 (by decide))
              have hl2 := b4 (hup 16 (by decide))
              have hbel := hI.bel
              obtain ⟨f, rfl, hf⟩ := hI.off.forms
              have h7 : f 7 = .pointer (some ⟨bx, 0, none⟩) := (hf 7).trans b1
              clear hI
              simp only [List.foldl, Act.put, List.setIfInBounds_toArray, List.set, h7]
              simp only [Exit.then]
              go_step
              go_meet
              exact ⟨bx, rfl, b2, Lib.hid hl2, Lib.hid hbel⟩
          case rest =>
            obtain ⟨bx, rfl, hbx, hLr, hBe⟩ := hcut
            rw [← HRl.out] at hLr
            have HBf := Lib.hid (hbr.out.trans (hBe.out.mono hbr.out.size))
            have HRow2 := Lib.hid (HRow.out.next hBe.out)
            have hrlen : row.length ≤ 4096 := by have := HRl.out; have := HMl.out; omega
            have hrr := HRR.out
            have hrv := (aRight_yes hrr).2.2
            have CW := Lib.hid (write32_any 1 (C : Int) (some ⟨ba, oa + M * 6, none⟩) (ca - M) row wc (by omega) (by omega) HRow2.out (fun v hv => right_sane (hrv v hv)) (HT.out.next HBf.out) (HP.out.next HBf.out) (HM.out.next HBf.out))
            have hwl3 : (cWrite 1 (C : Int) row).length ≤ 1000000 * 3 := by
              have h1 := write_len _ _ _ hrr
              have h2 := oSum_le row hrv
              omega
            have hrow100 : row.length ≤ 100 := by have := HRl.out; have := HMl.out; omega
            have hwl2 : (cWrite 1 (C : Int) row).length ≤ 1000000 := by
              have h1 := write_len _ _ _ hrr
              have h2 := oSum_le row hrv
              omega
            have CR := Lib.hid (fun W => read32_any (cWrite 1 (C : Int) row) W hwl2)
            have hcw := cRead_write _ _ _ hrr
            rw [hcw] at CR
            simp only [Int.toNat_natCast] at CR
            have l0 := hLr.out.cell 0
            have l1 := hLr.out.cell 1
            have l2 := hLr.out.cell 2
            simp only [List.getElem?_toArray, List.getElem?_cons_zero, List.getElem?_cons_succ] at l0 l1 l2
            generalize cWrite 1 (C : Int) row = rs at *
            clear hrr hrv hcw hwl3 HRow HRR hBe x0 x1 x2
            go_wp2_with fail
            refine CW.out.mono ?_
            rintro e w7 ⟨rfl, hb7⟩
            have HB7 := Lib.hid (HBf.out.trans (hb7.mono HBf.out.size))
            have L7 := Lib.hid (hLr.out.next hb7)
            have HV7 := Lib.hid (HRow2.out.next hb7)
            clear hb7 CW l0 l1 l2 HBf hLr HRow2
            go_wp2_with fail
            refine (CR.out _ (HT.out.next HB7.out) (HM.out.next HB7.out)).mono ?_
            rintro e w8 ⟨E, ce, rfl, hve, hb8⟩
            dsimp only at hve ⊢
            have HB9 : Below w8.heap.size w8 (w8.alloc (.cells #[.int .i64 1, .int .i64 (C : Int), .slice E row.length ce] 24)) := (Below.refl _ _).alloc (Nat.le_refl _) _
            have L9 := Lib.hid ((L7.out.next hb8).alloc (.cells #[.int .i64 1, .int .i64 (C : Int), .slice E row.length ce] 24))
            have L9b : Hid (Lies (w8.alloc (.cells #[.int .i64 1, .int .i64 (C : Int), .slice E row.length ce] 24)) w8.heap.size 24 #[.int .i64 1, .int .i64 (C : Int), .slice E row.length ce]) := Lib.hid (Lies.new w8 _ _)
            have HA9 := Lib.hid ((HV7.out.next hb8).next HB9)
            have HE9 := Lib.hid (hve.next HB9)
            have HBW9 := Lib.hid ((HB7.out.trans (hb8.mono HB7.out.size)).trans (HB9.mono (by have := HB7.out.size; have := hb8.size; omega)))
            have l0 := L9.out.cell 0
            have l1 := L9.out.cell 1
            have l2 := L9.out.cell 2
            have n0 := L9b.out.cell 0
            have n1 := L9b.out.cell 1
            have n2 := L9b.out.cell 2
            simp only [List.getElem?_toArray, List.getElem?_cons_zero, List.getElem?_cons_succ] at l0 l1 l2 n0 n1 n2
            clear hb8 hve HB9 CR HB7 L7 HV7
            go_wp2_with fail
            refine (rsame32_true 1 (C : Int) E (some ⟨ba, oa + M * 6, none⟩) ce (ca - M) row _ (by omega) HE9.out HA9.out).mono ?_
            rintro e w10 ⟨rfl, hb10⟩
            have HB10 := Lib.hid (HBW9.out.trans (hb10.mono HBW9.out.size))
            clear hb10 l0 l1 l2 n0 n1 n2
            go_wp2_with fail
            go_roundw
            case rel => exact ⟨i + 1, by go_num, by omega, HB10⟩
            case measure => simp [intOf]; omega
        · obtain rfl : i = Rn := by omega
          go_wp2_with fail
          go_ret
          exact ⟨rfl, HEnd.out _ hbr.out⟩
end Go.Proofs.YteccjdclkcipbaaGreatDoor
