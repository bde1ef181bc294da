/-
  A drawn region by properties; ftext.at, the function that through makes, ftext.Call, of arrays of one value.
-/
import Derived.Test.YtpdaloohgfnbhaaGreatDoorOrd2
import Derived.Test.YtpdaloohgfnbhaaGreatDoorVCells
import Derived.Test.YtpdaloohgfnbhaaGreatDoorFt5
import Derived.Laws.AppendOwn
import Derived.Laws.EntriesVeiled
namespace Go.Proofs.YtpdaloohgfnbhaaGreatDoor
open Go.RowKit

/-- each operation waits for earlier ones alone, as far as its waiting binds -/
def backwardB (ops : Array Oper) : Bool := (List.range ops.size).all fun i => ((ops[i]?).map fun o => o.after.all fun e => !Region.binds .any e || decide (e.on < i)).getD true
theorem backwardB_spec {ops : Array Oper} (h : backwardB ops = true) {i : Nat} {o : Oper} (ho : ops[i]? = some o) : ∀ e ∈ o.after, Region.binds .any e = true → e.on < i := by
  intro e he hb
  have hlt : i < ops.size := (Array.getElem?_eq_some_iff.1 ho).1
  have := List.all_eq_true.1 h i (List.mem_range.2 hlt)
  rw [ho] at this
  simp only [Option.map_some, Option.getD_some, Array.all_eq_true_iff_forall_mem] at this
  have h1 := this e he
  rw [hb] at h1
  exact of_decide_eq_true h1
theorem all_upB {ops : Array Oper} (hb : backwardB ops = true) {listed : Array Bool} (hs : listed.size = ops.size) (hr : Region.ready .any ops listed = []) : ∀ i, i < ops.size → Up listed i := by
  intro i
  induction i using Nat.strongRecOn with
  | _ i ih =>
    intro hi
    cases hu : listed.getD i true
    · exfalso
      have ho : ops[i]? = some ops[i] := Array.getElem?_eq_getElem hi
      have : i ∈ Region.ready .any ops listed := mem_ready.2 ⟨hu, ops[i], ho, fun e he hd => ih e.on (backwardB_spec hb ho e he hd) (Nat.lt_trans (backwardB_spec hb ho e he hd) hi)⟩
      rw [hr] at this
      cases this
    · have hi' : i < listed.size := by omega
      unfold Up
      simp only [Array.getD_eq_getD_getElem?, Array.getElem?_eq_getElem hi', Option.getD_some] at hu ⊢
      exact hu
theorem wpAny_invB {P : Program} {ops : Array Oper} {Q : Exit → Act → World → Prop} (hb : backwardB ops = true) (I : Array Bool → Act → World → Prop)
    (hstep : ∀ listed a w i o, listed.size = ops.size → I listed a w → listed.getD i true = false → ops[i]? = some o → (∀ e ∈ o.after, Region.binds .any e = true → Up listed e.on) → wpOp P ops Q i (I (listed.setIfInBounds i true)) a w)
    (hdone : ∀ listed a w, I listed a w → (∀ i, i < ops.size → Up listed i) → Q .normal a w) :
    ∀ (fuel : Nat) (listed : Array Bool) (a : Act) (w : World), listed.size = ops.size → left listed ≤ fuel → I listed a w → wpAny P .any ops Q fuel listed a w
  | 0, listed, a, w, hs, hf, hI => by
    have hr : Region.ready .any ops listed = [] := by
      refine List.eq_nil_iff_forall_not_mem.2 (fun i hi => ?_)
      have h1 := (mem_ready.1 hi).1
      rw [left_zero (by omega) i] at h1
      cases h1
    exact ⟨hr, hdone listed a w hI (all_upB hb hs hr)⟩
  | fuel + 1, listed, a, w, hs, hf, hI => by
    refine ⟨fun hr => hdone listed a w hI (all_upB hb hs hr), fun i hi => ?_⟩
    obtain ⟨h1, o, ho, hdeps⟩ := mem_ready.1 hi
    refine wpOp_mono (fun a' w' h' => wpAny_invB hb I hstep hdone fuel _ a' w' (by rw [Array.size_setIfInBounds]; exact hs) (by have := left_set h1; omega) h') (hstep listed a w i o hs hI h1 ho hdeps)
/-- wp_region_inv' where some waitings bind in one mode alone -/
theorem wp_region_invB {P : Program} {ops : Array Oper} {Q : Exit → Act → World → Prop} {id : Nat} {a : Act} {w : World} (hm : P.follows .mixedOrders = true) (hb : backwardB ops = true) (F : Act → Prop) (I : Act → Array Bool → Act → World → Prop) (hF : F a)
    (h0 : I a (Array.replicate ops.size false) a w.drew)
    (hstep : ∀ a0, F a0 → ∀ listed a w i o, listed.size = ops.size → I a0 listed a w → listed.getD i true = false → ops[i]? = some o → (∀ e ∈ o.after, Region.binds .any e = true → Up listed e.on) → wpOp P ops Q i (I a0 (listed.setIfInBounds i true)) a w)
    (hdone : ∀ listed a' w', I a listed a' w' → (∀ i, i < ops.size → Up listed i) → Q .normal a' w') : (Code.region id ops true).wp P Q a w :=
  wp_region_any hm (wpAny_invB hb (I a) (hstep a hF) hdone ops.size _ a _ (by simp) (by rw [left_replicate]; exact Nat.le_refl _) h0)
/-- a property of a value that lasts while memory grows, and while blocks of type ty are written -/
structure Last (ty : TypeId) (sz : Nat) (p : Value → World → Prop) : Prop where
  grow : ∀ v w w', p v w → Below w.heap.size w w' → p v w'
  put : ∀ v w bx cs i u, p v w → Lies w bx ty cs → cs.size = sz → p v (w.setCell ⟨bx, i, none⟩ u)
def Is (c : Value) : Value → World → Prop := fun v _ => v = c
theorem last_is (ty : TypeId) (sz : Nat) (c : Value) : Last ty sz (Is c) := ⟨fun _ _ _ h _ => h, fun _ _ _ _ _ _ h _ _ => h⟩
structure GI (S : List Nat) (T : List (Nat × Nat × (Value → World → Prop))) (X : World) (ia sa is : Nat) (ty : TypeId) (z : Array Value) (C : Array Value → World → Prop) (a0 : Act) (listed : Array Bool) (a : Act) (w : World) : Prop where
  off : Off S a0 a
  pt : ∀ e ∈ T, Up listed e.1 → e.2.2 (a.eval (.tmp e.2.1)) w
  bel : Below X.heap.size X w
  al : Up listed ia → ∃ bx, a.eval (.tmp sa) = .pointer (some ⟨bx, 0, none⟩) ∧ X.heap.size ≤ bx ∧ (¬ Up listed is → Lies w bx ty z) ∧ (Up listed is → ∃ c, C c w ∧ Lies w bx ty c)
  st : Up listed is → Up listed ia
/-- the region's numbers fit: operations, slots; N: how many slots -/
def okN (nums : List (Nat × Nat)) (S : List Nat) (ia sa is N : Nat) : Bool :=
  nums.all (fun p => p.2 != sa && p.1 != ia && p.1 != is && S.contains p.2 && decide (p.2 < N)) && decide (nums.Pairwise (fun p q => p.1 ≠ q.1 ∧ p.2 ≠ q.2)) && ia != is && S.contains sa && decide (sa < N)
structure GOk (S : List Nat) (T : List (Nat × Nat × (Value → World → Prop))) (ia sa is N : Nat) (ty : TypeId) (sz : Nat) (C : Array Value → World → Prop) : Prop where
  num : okN (T.map fun e => (e.1, e.2.1)) S ia sa is N = true
  last : ∀ e ∈ T, Last ty sz e.2.2
  lastC : ∀ c w w', C c w → Below w.heap.size w w' → C c w'
  putC : ∀ c w bx cs i u, C c w → Lies w bx ty cs → cs.size = sz → C c (w.setCell ⟨bx, i, none⟩ u)
theorem pw_ne {α : Type} {R : α → α → Prop} (hsym : ∀ a b, R a b → R b a) : ∀ {l : List α}, l.Pairwise R → ∀ a ∈ l, ∀ b ∈ l, a ≠ b → R a b
  | [], _, a, ha, _, _, _ => absurd ha (List.not_mem_nil)
  | x :: l, h, a, ha, b, hb, hne => by
    rw [List.pairwise_cons] at h
    rcases List.mem_cons.1 ha with ea | ha
    · rcases List.mem_cons.1 hb with eb | hb
      · exact absurd (ea.trans eb.symm) hne
      · rw [ea]; exact h.1 b hb
    · rcases List.mem_cons.1 hb with eb | hb
      · rw [eb]; exact hsym _ _ (h.1 a ha)
      · exact pw_ne hsym h.2 a ha b hb hne
section
variable {S : List Nat} {T : List (Nat × Nat × (Value → World → Prop))} {ia sa is N : Nat} {ty : TypeId} {sz : Nat} {C : Array Value → World → Prop}
theorem GOk.parts (h : GOk S T ia sa is N ty sz C) : (∀ e ∈ T, e.2.1 ≠ sa ∧ e.1 ≠ ia ∧ e.1 ≠ is ∧ e.2.1 ∈ S ∧ e.2.1 < N) ∧ T.Pairwise (fun e e' => e.1 ≠ e'.1 ∧ e.2.1 ≠ e'.2.1) ∧ ia ≠ is ∧ sa ∈ S ∧ sa < N := by
  have hn := h.num
  simp only [okN, Bool.and_eq_true, List.all_eq_true, bne_iff_ne, decide_eq_true_eq, List.contains_iff_mem, List.pairwise_map, List.mem_map, forall_exists_index, and_imp, forall_apply_eq_imp_iff₂] at hn
  obtain ⟨⟨⟨⟨h1, h2⟩, h3⟩, h4⟩, h5⟩ := hn
  refine ⟨fun e he => ?_, h2, h3, h4, h5⟩
  obtain ⟨⟨⟨⟨g1, g2⟩, g3⟩, g4⟩, g5⟩ := h1 e he
  exact ⟨g1, g2, g3, g4, g5⟩
theorem GOk.uniq (h : GOk S T ia sa is N ty sz C) {e e' : Nat × Nat × (Value → World → Prop)} (he : e ∈ T) (he' : e' ∈ T) (hs : e.1 = e'.1 ∨ e.2.1 = e'.2.1) : e = e' := by
  have hp := h.parts.2.1
  by_cases heq : e = e'
  · exact heq
  · exfalso
    have := pw_ne (fun a b h => ⟨h.1.symm, h.2.symm⟩) hp e he e' he' heq
    rcases hs with hs | hs
    · exact this.1 hs
    · exact this.2 hs
end
section
variable {S : List Nat} {T : List (Nat × Nat × (Value → World → Prop))} {X w : World} {ia sa is N : Nat} {ty : TypeId} {sz : Nat} {z : Array Value} {C : Array Value → World → Prop} {a0 a : Act} {listed : Array Bool} {ops : Array Oper} {Q : Exit → Act → World → Prop} {o : Oper}
theorem GI.start (a : Act) (m : Nat) (hb : Below X.heap.size X w) : GI S T X ia sa is ty z C a (Array.replicate m false) a w :=
  ⟨Off.refl _ _, fun _ _ h => absurd h (Up.none _ _), hb, fun h => absurd h (Up.none _ _), fun h => absurd h (Up.none _ _)⟩
theorem GI.next (hk : GOk S T ia sa is N ty sz C) (hI : GI S T X ia sa is ty z C a0 listed a w) {i s : Nat} {v : Value} {w1 : World} (hun : listed.getD i true = false) (hs : s < a0.tmps.size) (hia : i ≠ ia) (his : i ≠ is) (hsa : s ≠ sa) (hsS : s ∈ S) (h1 : ∀ e ∈ T, e.2.1 = s ↔ e.1 = i) (hp : ∀ e ∈ T, e.1 = i → e.2.2 v w1) (hw : Below w.heap.size w w1) :
    GI S T X ia sa is ty z C a0 (listed.setIfInBounds i true) (a.put (some s) v) w1 := by
  have hi := Up.of_false hun
  refine ⟨hI.off.put hsS v, fun e he hu => ?_, hI.bel.trans (hw.mono hI.bel.size), fun h => ?_, fun h => up_new hi (hI.st (up_old hi h (fun e => his e.symm)))⟩
  · by_cases hei : e.1 = i
    · rw [(h1 e he).2 hei, eval_put_eq _ _ (by rw [hI.off.size]; exact hs)]
      exact hp e he hei
    · rw [eval_put_ne _ _ (fun e' => hei ((h1 e he).1 e'.symm))]
      exact (hk.last e he).grow _ _ _ (hI.pt e he (up_old hi hu hei)) hw
  · obtain ⟨bx, b1, b2, b3, b4⟩ := hI.al (up_old hi h (fun e => hia e.symm))
    rw [eval_put_ne _ _ hsa]
    refine ⟨bx, b1, b2, fun h' => (b3 (fun e => h' (up_new hi e))).next hw, fun h' => ?_⟩
    obtain ⟨c, c1, c2⟩ := b4 (up_old hi h' (fun e => his e.symm))
    exact ⟨c, hk.lastC _ _ _ c1 hw, c2.next hw⟩
theorem GI.step (hk : GOk S T ia sa is N ty sz C) (hI : GI S T X ia sa is ty z C a0 listed a w) (hN : N ≤ a0.tmps.size) {i s : Nat} {p : Value → World → Prop} (he : (i, s, p) ∈ T) {v : Value} {w1 : World} (hun : listed.getD i true = false) (hw : Below w.heap.size w w1) (hp : p v w1) :
    GI S T X ia sa is ty z C a0 (listed.setIfInBounds i true) (a.put (some s) v) w1 := by
  obtain ⟨g1, g2, g3, g4, g5⟩ := hk.parts.1 _ he
  refine hI.next hk hun (Nat.lt_of_lt_of_le g5 hN) g2 g3 g1 g4 (fun e h => ⟨fun h' => ?_, fun h' => ?_⟩) (fun e h h' => ?_) hw
  · rw [hk.uniq h he (.inr h')]
  · rw [hk.uniq h he (.inl h')]
  · rw [hk.uniq h he (.inl h')]; exact hp
theorem gi_val (hk : GOk S T ia sa is N ty sz C) (hI : GI S T X ia sa is ty z C a0 listed a w) (hN : N ≤ a0.tmps.size) {i s : Nat} {p : Value → World → Prop} (he : (i, s, p) ∈ T) (v : Value) (w1 : World) (hun : listed.getD i true = false) (ho : ops[i]? = some o) (hg : o.guard = none) (hd : o.dst = some s)
    (hr : (execOp a.eval o).run Tryz.prog w = .ok (.value v) w1) (hw : Below w.heap.size w w1) (hp : p v w1) : wpOp Tryz.prog ops Q i (GI S T X ia sa is ty z C a0 (listed.setIfInBounds i true)) a w := by
  refine wpOp_plain ho hg (wpOpr_val v hr ?_)
  rw [hd]
  exact hI.step hk hN he hun hw hp
theorem gi_call (hk : GOk S T ia sa is N ty sz C) (hI : GI S T X ia sa is ty z C a0 listed a w) (hN : N ≤ a0.tmps.size) {i s : Nat} {p : Value → World → Prop} (he : (i, s, p) ∈ T) (f : FuncId) (xs : Array Value) (hun : listed.getD i true = false) (ho : ops[i]? = some o) (hg : o.guard = none) (hd : o.dst = some s)
    (hr : (execOp a.eval o).run Tryz.prog w = .ok (.enter f xs) w) (hc : Calls Tryz.prog f xs w fun e w1 => ∃ v, e = .returned v ∧ Below w.heap.size w w1 ∧ p v w1) : wpOp Tryz.prog ops Q i (GI S T X ia sa is ty z C a0 (listed.setIfInBounds i true)) a w := by
  refine wpOp_plain ho hg ?_
  unfold Oper.wp
  rw [hr]
  refine hc.mono ?_
  rintro e w1 ⟨v, rfl, hw, hp⟩
  show GI S T X ia sa is ty z C a0 (listed.setIfInBounds i true) (a.put o.dst v) w1
  rw [hd]
  exact hI.step hk hN he hun hw hp
theorem gi_alloc (hk : GOk S T ia sa is N ty sz C) (hI : GI S T X ia sa is ty z C a0 listed a w) (hN : N ≤ a0.tmps.size) (hun : listed.getD ia true = false) (ho : ops[ia]? = some o) (hg : o.guard = none) (hd : o.dst = some sa)
    (hr : ∀ W : World, (execOp a.eval o).run Tryz.prog W = .ok (.value (.pointer (some ⟨W.heap.size, 0, none⟩))) (W.alloc (.cells z ty))) : wpOp Tryz.prog ops Q ia (GI S T X ia sa is ty z C a0 (listed.setIfInBounds ia true)) a w := by
  have hi := Up.of_false hun
  have h9 := not_upO hun
  obtain ⟨hsl, -, hne, hsS, hs⟩ := hk.parts
  replace hs := Nat.lt_of_lt_of_le hs hN
  refine wpOp_plain ho hg (wpOpr_val _ (hr w) ?_)
  rw [hd]
  have hw : Below w.heap.size w (w.alloc (.cells z ty)) := (Below.refl _ w).alloc (Nat.le_refl _) _
  refine ⟨hI.off.put hsS _, fun e he hu => ?_, hI.bel.trans (hw.mono hI.bel.size), fun _ => ?_, fun h => ?_⟩
  · obtain ⟨n1, n2, -⟩ := hsl e he
    rw [eval_put_ne _ _ (Ne.symm n1)]
    exact (hk.last e he).grow _ _ _ (hI.pt e he (up_old hi hu n2)) hw
  · exact ⟨w.heap.size, eval_put_eq _ _ (by rw [hI.off.size]; exact hs), hI.bel.size, fun _ => Lies.new w _ _, fun h' => absurd (hI.st (up_old hi h' (Ne.symm hne))) h9⟩
  · exact absurd (hI.st (up_old hi h (Ne.symm hne))) h9
/-- cells stored one behind the other, from the first one on -/
def putL (W : World) (bx : Nat) : Nat → List Value → World
  | _, [] => W
  | i, v :: r => putL (W.setCell ⟨bx, i, none⟩ v) bx (i + 1) r
theorem putL_lies {bx : Nat} : ∀ (r : List Value) (i : Nat) (W : World) (cs : Array Value), Lies W bx ty cs → i + r.length = cs.size → Lies (putL W bx i r) bx ty (cs.toList.take i ++ r).toArray
  | [], i, _, cs, h, hl => by
    have : (cs.toList.take i ++ []).toArray = cs := by
      rw [List.append_nil, List.take_of_length_le (by simp at hl; simp; omega)]
    rw [this]
    exact h
  | v :: r, i, _, cs, h, hl => by
    have h1 := putL_lies r (i + 1) _ _ (h.put i v) (by simp at hl ⊢; omega)
    have hi : i < cs.toList.length := by simp at hl ⊢; omega
    have e : ((cs.setIfInBounds i v).toList.take (i + 1) ++ r).toArray = (cs.toList.take i ++ v :: r).toArray := by
      congr 1
      rw [Array.toList_setIfInBounds, List.take_succ_eq_append_getElem (by simpa using hi), List.getElem_set_self, List.take_set_of_le (Nat.le_refl _)]
      simp
    rw [← e]
    exact h1
theorem putL_below {bx : Nat} {B : Nat} {w0 : World} (hb : B ≤ bx) : ∀ (r : List Value) (i : Nat) (W : World), Below B w0 W → Below B w0 (putL W bx i r)
  | [], _, _, h => h
  | v :: r, i, _, h => putL_below hb r (i + 1) _ (below_set h hb i v)
theorem Last.putL {p : Value → World → Prop} (hl : Last ty sz p) {v : Value} {bx : Nat} : ∀ (r : List Value) (i : Nat) (W : World) (cs : Array Value), p v W → Lies W bx ty cs → cs.size = sz → p v (putL W bx i r)
  | [], _, _, _, h, _, _ => h
  | u :: r, i, _, _, h, hL, hs => hl.putL r (i + 1) _ _ (hl.put _ _ _ _ i u h hL hs) (hL.put i u) (by rw [Array.size_setIfInBounds]; exact hs)
theorem putC_all {p : Array Value → World → Prop} (hl : ∀ c w bx cs i u, p c w → Lies w bx ty cs → cs.size = sz → p c (w.setCell ⟨bx, i, none⟩ u)) {v : Array Value} {bx : Nat} : ∀ (r : List Value) (i : Nat) (W : World) (cs : Array Value), p v W → Lies W bx ty cs → cs.size = sz → p v (putL W bx i r)
  | [], _, _, _, h, _, _ => h
  | u :: r, i, _, _, h, hL, hs => putC_all hl r (i + 1) _ _ (hl _ _ _ _ i u h hL hs) (hL.put i u) (by rw [Array.size_setIfInBounds]; exact hs)
theorem gi_store (hk : GOk S T ia sa is N ty sz C) (hI : GI S T X ia sa is ty z C a0 listed a w) (hun : listed.getD is true = false) (ho : ops[is]? = some o) (hg : o.guard = none) (hd : o.dst = none) (h9 : Up listed ia) (r : List Value) (hz : r.length = z.size) (hzs : z.size = sz) (hC : C r.toArray w)
    (hr : ∀ (bx : Nat), a.eval (.tmp sa) = .pointer (some ⟨bx, 0, none⟩) → Lies w bx ty z → (execOp a.eval o).run Tryz.prog w = .ok .skip (putL w bx 0 r)) : wpOp Tryz.prog ops Q is (GI S T X ia sa is ty z C a0 (listed.setIfInBounds is true)) a w := by
  have hi := Up.of_false hun
  have h10 := not_upO hun
  obtain ⟨bx, b1, b2, b3, _⟩ := hI.al h9
  have hl := b3 h10
  refine wpOp_plain ho hg (wpOpr_skip (hr bx b1 hl) ?_)
  rw [hd]
  show GI S T X ia sa is ty z C a0 _ a _
  have hpt : ∀ e ∈ T, Up listed e.1 → e.2.2 (a.eval (.tmp e.2.1)) (putL w bx 0 r) := fun e he hu => (hk.last e he).putL r 0 w z (hI.pt e he hu) hl hzs
  refine ⟨hI.off, fun e he hu => hpt e he (up_old hi hu (hk.parts.1 e he).2.2.1), putL_below b2 r 0 w hI.bel, fun _ => ⟨bx, b1, b2, fun h' => absurd (up_self hi) h', fun _ => ⟨r.toArray, putC_all hk.putC r 0 w z hC hl hzs, ?_⟩⟩, fun _ => up_new hi h9⟩
  have := putL_lies r 0 w z hl (by omega)
  simpa using this
end
/-- what was asked: a text, a whole number, a number -/
structure It where
  t : Bs
  n : Int
  m : Int
  e : Int
def itV (x : It) : Value := itemV x.t x.n x.m x.e
def itC (x : It) : List Value := [.string ⟨x.t.toArray⟩, .int .i64 x.n, .int .i64 x.m, .int .i64 x.e]
def icells (xs : List It) : List Value := xs.flatMap itC
theorem icells_len : ∀ xs : List It, (icells xs).length = xs.length * 4
  | [] => rfl
  | x :: xs => by
    have ih := icells_len xs
    unfold icells at ih ⊢
    rw [List.flatMap_cons, List.length_append, ih, List.length_cons]
    simp [itC]
    omega
/-- a block of values, of items -/
def VBk (W : World) (b : Nat) (vs : List Val) : Prop := ∃ cs : Array Value, cs.toList = vcells vs ∧ Lies W b 35 cs
def IBk (W : World) (b : Nat) (xs : List It) : Prop := ∃ cs : Array Value, cs.toList = icells xs ∧ Lies W b 84 cs
def setV6 (l : List Value) (i : Nat) (x : Val) : List Value := (((((l.set i (.int .i64 x.kind)).set (i + 1) (.int .i64 x.mant)).set (i + 2) (.int .i64 x.exp)).set (i + 3) (.string ⟨x.text.toArray⟩)).set (i + 4) (.bool x.truth)).set (i + 5) (.int .i64 x.fault)
theorem setV6_app (a b : List Value) (i : Nat) (x : Val) : setV6 (a ++ b) (a.length + i) x = a ++ setV6 b i x := by
  unfold setV6
  simp only [Nat.add_assoc, List.set_append_right _ _ (Nat.le_add_right _ _), Nat.add_sub_cancel_left]
theorem vcells_setV : ∀ (L : List Val) (k : Nat) (x : Val), k < L.length → setV6 (vcells L) (k * 6) x = vcells (L.set k x)
  | [], k, x, h => absurd h (Nat.not_lt_zero _)
  | y :: L, 0, x, _ => by
    show setV6 ((valC y).toList ++ vcells L) 0 x = (valC x).toList ++ vcells L
    rfl
  | y :: L, k + 1, x, h => by
    show setV6 ((valC y).toList ++ vcells L) ((k + 1) * 6) x = (valC y).toList ++ vcells (L.set k x)
    rw [← vcells_setV L k x (by simpa using h), show (k + 1) * 6 = (valC y).toList.length + k * 6 by simp; omega, setV6_app]
def setI4 (l : List Value) (i : Nat) (x : It) : List Value := (((l.set i (.string ⟨x.t.toArray⟩)).set (i + 1) (.int .i64 x.n)).set (i + 2) (.int .i64 x.m)).set (i + 3) (.int .i64 x.e)
theorem setI4_app (a b : List Value) (i : Nat) (x : It) : setI4 (a ++ b) (a.length + i) x = a ++ setI4 b i x := by
  unfold setI4
  simp only [Nat.add_assoc, List.set_append_right _ _ (Nat.le_add_right _ _), Nat.add_sub_cancel_left]
theorem icells_setI : ∀ (L : List It) (k : Nat) (x : It), k < L.length → setI4 (icells L) (k * 4) x = icells (L.set k x)
  | [], k, x, h => absurd h (Nat.not_lt_zero _)
  | y :: L, 0, x, _ => rfl
  | y :: L, k + 1, x, h => by
    show setI4 (itC y ++ icells L) ((k + 1) * 4) x = itC y ++ icells (L.set k x)
    rw [← icells_setI L k x (by simpa using h), show (k + 1) * 4 = (itC y).length + k * 4 by simp [itC]; omega, setI4_app]
theorem VBk.next {W W' : World} {b : Nat} {vs : List Val} (h : VBk W b vs) (hb : Below W.heap.size W W') : VBk W' b vs := by
  obtain ⟨cs, h1, h2⟩ := h
  exact ⟨cs, h1, h2.next hb⟩
theorem IBk.next {W W' : World} {b : Nat} {xs : List It} (h : IBk W b xs) (hb : Below W.heap.size W W') : IBk W' b xs := by
  obtain ⟨cs, h1, h2⟩ := h
  exact ⟨cs, h1, h2.next hb⟩
theorem vcells_at : ∀ (L : List Val) (k m : Nat) (h : k < L.length), m < 6 → (vcells L)[k * 6 + m]? = (valC L[k])[m]?
  | [], k, m, h, _ => absurd h (Nat.not_lt_zero _)
  | y :: L, 0, m, h, hm => by
    show ((valC y).toList ++ vcells L)[0 * 6 + m]? = (valC y)[m]?
    rw [Nat.zero_mul, Nat.zero_add, List.getElem?_append_left (by simp; omega)]
    simp
  | y :: L, k + 1, m, h, hm => by
    show ((valC y).toList ++ vcells L)[(k + 1) * 6 + m]? = (valC (L[k]'(by simpa using h)))[m]?
    rw [show (k + 1) * 6 + m = (valC y).toList.length + (k * 6 + m) by simp; omega, List.getElem?_append_right (Nat.le_add_right _ _), Nat.add_sub_cancel_left, vcells_at L k m (by simpa using h) hm]
theorem icells_at : ∀ (L : List It) (k m : Nat) (h : k < L.length), m < 4 → (icells L)[k * 4 + m]? = (itC L[k])[m]?
  | [], k, m, h, _ => absurd h (Nat.not_lt_zero _)
  | y :: L, 0, m, h, hm => by
    show (itC y ++ icells L)[0 * 4 + m]? = (itC y)[m]?
    rw [Nat.zero_mul, Nat.zero_add, List.getElem?_append_left (by simp [itC]; omega)]
  | y :: L, k + 1, m, h, hm => by
    show (itC y ++ icells L)[(k + 1) * 4 + m]? = (itC (L[k]'(by simpa using h)))[m]?
    rw [show (k + 1) * 4 + m = (itC y).length + (k * 4 + m) by simp [itC]; omega, List.getElem?_append_right (Nat.le_add_right _ _), Nat.add_sub_cancel_left, icells_at L k m (by simpa using h) hm]
theorem VBk.cell {W : World} {b : Nat} {L : List Val} (h : VBk W b L) (k : Nat) (hk : k < L.length) (m : Nat) (hm : m < 6) : W.cell? ⟨b, k * 6 + m, none⟩ = (valC L[k])[m]? := by
  obtain ⟨cs, h1, h2⟩ := h
  rw [h2.cell, ← vcells_at L k m hk hm, ← h1, Array.getElem?_toList]
theorem IBk.cell {W : World} {b : Nat} {L : List It} (h : IBk W b L) (k : Nat) (hk : k < L.length) (m : Nat) (hm : m < 4) : W.cell? ⟨b, k * 4 + m, none⟩ = (itC L[k])[m]? := by
  obtain ⟨cs, h1, h2⟩ := h
  rw [h2.cell, ← icells_at L k m hk hm, ← h1, Array.getElem?_toList]
theorem VBk.frozen {W : World} {b : Nat} {L : List Val} (h : VBk W b L) (i : Nat) : W.frozen? ⟨b, i, none⟩ = false := by
  obtain ⟨cs, _, h2⟩ := h
  exact h2.frozen i
theorem IBk.frozen {W : World} {b : Nat} {L : List It} (h : IBk W b L) (i : Nat) : W.frozen? ⟨b, i, none⟩ = false := by
  obtain ⟨cs, _, h2⟩ := h
  exact h2.frozen i
theorem VBk.lt {W : World} {b : Nat} {L : List Val} (h : VBk W b L) : b < W.heap.size := by
  obtain ⟨cs, _, h2⟩ := h
  exact h2.lt
theorem IBk.lt {W : World} {b : Nat} {L : List It} (h : IBk W b L) : b < W.heap.size := by
  obtain ⟨cs, _, h2⟩ := h
  exact h2.lt
/-- six cells stored into a block -/
def st6 (W : World) (b i : Nat) (x : Val) : World := (((((W.setCell ⟨b, i, none⟩ (.int .i64 x.kind)).setCell ⟨b, i + 1, none⟩ (.int .i64 x.mant)).setCell ⟨b, i + 2, none⟩ (.int .i64 x.exp)).setCell ⟨b, i + 3, none⟩ (.string ⟨x.text.toArray⟩)).setCell ⟨b, i + 4, none⟩ (.bool x.truth)).setCell ⟨b, i + 5, none⟩ (.int .i64 x.fault)
def st4 (W : World) (b i : Nat) (x : It) : World := (((W.setCell ⟨b, i, none⟩ (.string ⟨x.t.toArray⟩)).setCell ⟨b, i + 1, none⟩ (.int .i64 x.n)).setCell ⟨b, i + 2, none⟩ (.int .i64 x.m)).setCell ⟨b, i + 3, none⟩ (.int .i64 x.e)
theorem VBk.put {W : World} {b : Nat} {L : List Val} (h : VBk W b L) (k : Nat) (hk : k < L.length) (x : Val) : VBk (st6 W b (k * 6) x) b (L.set k x) := by
  obtain ⟨cs, h1, h2⟩ := h
  refine ⟨_, ?_, (((((h2.put _ _).put _ _).put _ _).put _ _).put _ _).put _ _⟩
  rw [← vcells_setV L k x hk, ← h1]
  simp [setV6]
theorem IBk.put {W : World} {b : Nat} {L : List It} (h : IBk W b L) (k : Nat) (hk : k < L.length) (x : It) : IBk (st4 W b (k * 4) x) b (L.set k x) := by
  obtain ⟨cs, h1, h2⟩ := h
  refine ⟨_, ?_, (((h2.put _ _).put _ _).put _ _).put _ _⟩
  rw [← icells_setI L k x hk, ← h1]
  simp [setI4]
theorem st6_off {W : World} {g b i : Nat} {t : TypeId} {cs : Array Value} {x : Val} (h : Lies W g t cs) (hb : g ≠ b) : Lies (st6 W b i x) g t cs :=
  lies_off (lies_off (lies_off (lies_off (lies_off (lies_off h hb _ _) hb _ _) hb _ _) hb _ _) hb _ _) hb _ _
theorem st4_off {W : World} {g b i : Nat} {t : TypeId} {cs : Array Value} {x : It} (h : Lies W g t cs) (hb : g ≠ b) : Lies (st4 W b i x) g t cs :=
  lies_off (lies_off (lies_off (lies_off h hb _ _) hb _ _) hb _ _) hb _ _
theorem st6_below {B b i : Nat} {w W : World} {x : Val} (h : Below B w W) (hb : B ≤ b) : Below B w (st6 W b i x) :=
  below_set (below_set (below_set (below_set (below_set (below_set h hb _ _) hb _ _) hb _ _) hb _ _) hb _ _) hb _ _
theorem st4_below {B b i : Nat} {w W : World} {x : It} (h : Below B w W) (hb : B ≤ b) : Below B w (st4 W b i x) :=
  below_set (below_set (below_set (below_set h hb _ _) hb _ _) hb _ _) hb _ _
theorem infoItem : (Tryz.prog.info? 84).map (fun i => (i.zero, i.size, i.bytes)) = some (some (itV ⟨[], 0, 0, 0⟩), 4, 40) := by kernel_rfl
/-- a row of arrays of one value each -/
def ARow (W : World) (b off : Nat) (vs : List Val) : Prop := b < W.heap.size ∧ ∀ j (h : j < vs.length), W.cell? ⟨b, off + j * 3, none⟩ = some (.int .i64 1) ∧ W.cell? ⟨b, off + j * 3 + 1, none⟩ = some (.int .i64 1) ∧ ∃ A c, W.cell? ⟨b, off + j * 3 + 2, none⟩ = some (.slice A 1 c) ∧ VSl W A [vs[j]]
theorem ARow.next {W W' : World} {b off : Nat} {vs : List Val} (h : ARow W b off vs) (hb : Below W.heap.size W W') : ARow W' b off vs := by
  refine ⟨Nat.lt_of_lt_of_le h.1 hb.size, fun j hj => ?_⟩
  obtain ⟨h1, h2, A, c, h3, h4⟩ := h.2 j hj
  exact ⟨(hb.cell (p := ⟨b, off + j * 3, none⟩) h.1).trans h1, (hb.cell (p := ⟨b, off + j * 3 + 1, none⟩) h.1).trans h2, A, c, (hb.cell (p := ⟨b, off + j * 3 + 2, none⟩) h.1).trans h3, h4.next hb⟩
theorem make_items (P : Nat) (hP : P ≤ 1000000) : ∃ cs : Array Value, cs.toList = icells (List.replicate P ⟨[], 0, 0, 0⟩) ∧ ∀ W : World, (Instr.makeSlice 82 (.int .i64 (P : Int)) (.int .i64 (P : Int))).run Tryz.prog W = .ok (.slice (some ⟨W.heap.size, 0, none⟩) P P) (W.alloc (.cells cs 84)) := by
  obtain ⟨i1, gi, gz0, gz1, gz2⟩ := info_parts infoItem
  have h2 : ∀ P, (madeCells (itV ⟨[], 0, 0, 0⟩).cells (P * 4)).toList = icells (List.replicate P ⟨[], 0, 0, 0⟩) := fun P => by
    apply List.ext_getElem?
    intro i
    by_cases hi : i < P * 4
    · have e : i = i / 4 * 4 + i % 4 := by omega
      have hk : i / 4 < (List.replicate P (⟨[], 0, 0, 0⟩ : It)).length := by rw [List.length_replicate]; omega
      rw [e, icells_at _ _ _ hk (by omega), List.getElem_replicate, ← e]
      have hm : i % 4 < 4 := by omega
      have hi2 : i < (madeCells (itV ⟨[], 0, 0, 0⟩).cells (P * 4)).size := by rw [size_madeCells]; exact hi
      rw [Array.getElem?_toList, Array.getElem?_eq_getElem hi2]
      simp only [madeCells, Array.getElem_map, Array.getElem_range]
      show some (#[Value.string ⟨#[]⟩, .int .i64 0, .int .i64 0, .int .i64 0][i % 4]!) = [Value.string ⟨#[]⟩, .int .i64 0, .int .i64 0, .int .i64 0][i % 4]?
      rcases (by omega : i % 4 = 0 ∨ i % 4 = 1 ∨ i % 4 = 2 ∨ i % 4 = 3) with e | e | e | e <;> rw [e] <;> rfl
    · rw [List.getElem?_eq_none (by rw [Array.length_toList, size_madeCells]; omega), List.getElem?_eq_none (by rw [icells_len, List.length_replicate]; omega)]
  refine ⟨_, h2 P, fun W => ?_⟩
  have h := run_make (P := Tryz.prog) W 82 84 i1 _ Tryz.underlying82 gi gz0 .i64 .i64 (P : Int) (P : Int) (by omega) (Int.le_refl _) (by rw [gz2]; omega) (by omega)
  rw [gz1] at h
  simpa using h
/-- what a function asks of a value, as at tells it: of each argument -/
def Asked (ks : List Nat) (vs : List Val) (xs : List It) (w : World) : Prop :=
  xs.length = vs.length ∧ ∀ i (h1 : i < ks.length) (h2 : i < vs.length) (h3 : i < xs.length), ∀ W, Below w.heap.size w W → Calls Tryz.prog ks[i] #[valV vs[i]] W fun e w' => e = .returned (.tuple #[itV xs[i], .int .i64 0]) ∧ Below W.heap.size W w'
def Enters (ks : List Nat) : Prop := ∀ i (h : i < ks.length), ∀ args W, (callFunc ks[i] args).run Tryz.prog W = .ok (.enter ks[i] args) W
abbrev tabAt (bk kl k kf : Nat) (x : Val) (y : It) : List (Nat × Nat × (Value → World → Prop)) := [(0, 57, Is (.slice (some ⟨bk, 0, none⟩) kl kl)), (1, 58, Is (.int .i64 (k : Int))), (2, 59, Is (.pointer (some ⟨bk, k, none⟩))), (3, 60, Is (fnV kf)), (4, 61, Is (valV x)), (5, 62, Is (.tuple #[itV y, .int .i64 0])), (6, 56, Is (.tuple #[itV y, .int .i64 0])), (7, 63, Is (itV y)), (8, 64, Is (.int .i64 0)), (11, 20, Is (.int .i64 0))]
set_option maxRecDepth 100000 in
set_option maxHeartbeats 6400000 in
theorem at_any (f : Nat) (ks : List Nat) (vs : List Val) (xs : List It) (r : Val) (bk b off cap : Nat) (w : World) (hef : ∀ args W, (callFunc f args).run Tryz.prog W = .ok (.enter f args) W) (hek : Enters ks) (hkn : vs.length ≤ ks.length) (hk4 : ks.length ≤ 4)
    (hks : ∀ i (h : i < ks.length), w.cell? ⟨bk, i, none⟩ = some (fnV ks[i])) (hbk : bk < w.heap.size) (ha : ARow w b off vs) (hA : Asked ks vs xs w)
    (HF : ∀ W B, Below w.heap.size w W → IBk W B xs → Calls Tryz.prog f #[.slice (some ⟨B, 0, none⟩) vs.length vs.length] W fun e w' => e = .returned (valV r) ∧ Below W.heap.size W w') :
    Calls Tryz.prog 61 #[fnV f, .slice (some ⟨bk, 0, none⟩) ks.length ks.length, .slice (some ⟨b, off, none⟩) vs.length cap, .int .i64 0, .int .i64 0] w fun e w' => e = .returned (valV r) ∧ Below w.heap.size w w' := by
  obtain ⟨n, hn⟩ : ∃ n, n = vs.length := ⟨_, rfl⟩
  obtain ⟨cs1, hcs1, mk1⟩ := make_vals n (by omega)
  obtain ⟨cs2, hcs2, mk2⟩ := make_items n (by omega)
  have HA := Lib.hid ha
  have HKs := Lib.hid hks
  have HEk := Lib.hid hek
  have HAs := Lib.hid hA
  have HF := Lib.hid HF
  have HC1 := Lib.hid hcs1
  have HC2 := Lib.hid hcs2
  have HN := Lib.hid hn
  obtain ⟨kl, hkl⟩ : ∃ kl, kl = ks.length := ⟨_, rfl⟩
  have HKl := Lib.hid hkl
  rw [← hn] at hkn ⊢
  rw [← hkl] at hkn hk4 ⊢
  have hn4 : n ≤ 4 := Nat.le_trans hkn hk4
  clear ha hks hA hcs1 hcs2 hn hek hkl
  unfold fnV
  go_enter Tryz.func61, Tryz.ntmps61
  go_upto_region 2 with fail
  have HB1 : Hid (Below w.heap.size w ((w.alloc (.cells #[.int .i64 0, .int .i64 0, .int .i64 0, .string ⟨#[]⟩, .bool false, .int .i64 0] 35)).alloc (.cells cs1 35))) := Lib.hid (((Below.refl _ w).alloc (Nat.le_refl _) _).alloc (by rw [World.size_alloc]; omega) _)
  have HR1 : Hid (Lies ((w.alloc (.cells #[.int .i64 0, .int .i64 0, .int .i64 0, .string ⟨#[]⟩, .bool false, .int .i64 0] 35)).alloc (.cells cs1 35)) w.heap.size 35 (valC ⟨0, 0, 0, [], false, 0⟩)) := Lib.hid ((Lies.new w _ _).alloc _)
  have HV1 : Hid (VBk ((w.alloc (.cells #[.int .i64 0, .int .i64 0, .int .i64 0, .string ⟨#[]⟩, .bool false, .int .i64 0] 35)).alloc (.cells cs1 35)) (w.heap.size + 1) (List.replicate n ⟨0, 0, 0, [], false, 0⟩)) := Lib.hid ⟨cs1, HC1.out, by
    have h := Lies.new (w.alloc (.cells #[.int .i64 0, .int .i64 0, .int .i64 0, .string ⟨#[]⟩, .bool false, .int .i64 0] 35)) 35 cs1
    rw [World.size_alloc] at h
    exact h⟩
  generalize (w.alloc (.cells #[.int .i64 0, .int .i64 0, .int .i64 0, .string ⟨#[]⟩, .bool false, .int .i64 0] 35)).alloc (.cells cs1 35) = W1 at *
  generalize hqe : w.heap.size = q at *
  have HQ := Lib.hid hqe
  clear hqe
  go_wp2_with fail
  go_loopw [26] (fun v26 wx => ∃ k : Nat, v26 = .int .i64 (k : Int) ∧ k ≤ n ∧ Hid (Below q w wx) ∧ Hid (Lies wx q 35 (valC ⟨0, 0, 0, [], false, 0⟩)) ∧ Hid (∃ L : List Val, L.length = n ∧ VBk wx (q + 1) L ∧ ∀ j (h1 : j < k) (h2 : j < vs.length), L[j]? = some vs[j])) (fun v26 _ => n - (intOf v26).toNat)
  case atStart => exact ⟨0, rfl, Nat.zero_le _, HB1, HR1, Lib.hid ⟨_, by rw [List.length_replicate], HV1.out, fun j h => absurd h (Nat.not_lt_zero _)⟩⟩
  case round =>
    obtain ⟨k, rfl, hk, hb, hr, hL⟩ := hrel
    clear HB1 HR1 HV1
    by_cases hlt : k < n
    · have hkv : k < vs.length := by rw [← HN.out]; exact hlt
      have hAk := HA.out.2 k hkv
      have hbw : b < q := by rw [← HQ.out]; exact HA.out.1
      obtain ⟨a0, a1, A, cA, a2, hsl⟩ := hAk
      have b0 := (hb.out.cell (p := ⟨b, off + k * 3, none⟩) hbw).trans a0
      have b1 := (hb.out.cell (p := ⟨b, off + k * 3 + 1, none⟩) hbw).trans a1
      have b2 := (hb.out.cell (p := ⟨b, off + k * 3 + 2, none⟩) hbw).trans a2
      have hqs : q < wr.heap.size := hr.out.lt
      have CV := Lib.hid (fun W (h : Below wr.heap.size wr W) => valueAt_one A cA vs[k] W (hsl.next (by rw [HQ.out]; exact hb.out.trans (h.mono (Nat.le_of_lt hqs)))))
      have HX : Hid (vs[k]? = some vs[k]) := Lib.hid (List.getElem?_eq_getElem hkv)
      generalize vs[k] = x at *
      have HSl := Lib.hid hsl
      clear a0 a1 a2 hsl hkv
      go_wp2_with fail
      refine (CV.out _ ?_).mono ?_
      · exact (Below.refl _ wr).alloc (Nat.le_refl _) _
      rintro e w2 ⟨rfl, hb2⟩
      have hbA : Below wr.heap.size wr w2 := ((Below.refl _ wr).alloc (Nat.le_refl _) _).trans (hb2.mono (by rw [World.size_alloc]; omega))
      obtain ⟨L, hLn, hLv, hLk⟩ := hL.out
      have HLk := Lib.hid hLk
      have HLn := Lib.hid hLn
      obtain ⟨xk, xm, xe, xt, xtr, xf⟩ := x
      dsimp only [valV, valC]
      go_upto_region 8 with fail
      have hbB : Below wr.heap.size wr (w2.alloc (.cells #[.int .i64 xk, .int .i64 xm, .int .i64 xe, .string ⟨xt.toArray⟩, .bool xtr, .int .i64 xf] 35)) := hbA.alloc hbA.size _
      have HB3 := Lib.hid (hb.out.trans (hbB.mono (Nat.le_of_lt hqs)))
      have HR3 := Lib.hid (hr.out.next hbB)
      have HV3 := Lib.hid (hLv.next hbB)
      have HL3 := Lib.hid (Lies.new w2 35 #[.int .i64 xk, .int .i64 xm, .int .i64 xe, .string ⟨xt.toArray⟩, .bool xtr, .int .i64 xf])
      generalize w2.alloc (.cells #[.int .i64 xk, .int .i64 xm, .int .i64 xe, .string ⟨xt.toArray⟩, .bool xtr, .int .i64 xf] 35) = W3 at *
      generalize w2.heap.size = g at *
      obtain ⟨r0, r1, r2, r3, r4, r5⟩ := (⟨HL3.out.cell 0, HL3.out.cell 1, HL3.out.cell 2, HL3.out.cell 3, HL3.out.cell 4, HL3.out.cell 5⟩ : _ ∧ _ ∧ _ ∧ _ ∧ _ ∧ _)
      simp only [List.getElem?_toArray, List.getElem?_cons_zero, List.getElem?_cons_succ] at r0 r1 r2 r3 r4 r5
      have hkL : k < L.length := by rw [hLn]; exact hlt
      have t0 := HV3.out.cell k hkL 0 (by decide)
      have t1 := HV3.out.cell k hkL 1 (by decide)
      have t2 := HV3.out.cell k hkL 2 (by decide)
      have t3 := HV3.out.cell k hkL 3 (by decide)
      have t4 := HV3.out.cell k hkL 4 (by decide)
      have t5 := HV3.out.cell k hkL 5 (by decide)
      simp only [valC, List.getElem?_toArray, List.getElem?_cons_zero, List.getElem?_cons_succ, Nat.add_zero] at t0 t1 t2 t3 t4 t5
      have f0 := HV3.out.frozen (k * 6)
      have f1 := HV3.out.frozen (k * 6 + 1)
      have f2 := HV3.out.frozen (k * 6 + 2)
      have f3 := HV3.out.frozen (k * 6 + 3)
      have f4 := HV3.out.frozen (k * 6 + 4)
      have f5 := HV3.out.frozen (k * 6 + 5)
      clear hbA hbB hb2 hb hr hL hLv hLk CV b0 b1 b2
      go_wp2_with fail
      go_roundw
      case rel =>
        refine ⟨k + 1, by go_num, by omega, Lib.hid ?_, Lib.hid ?_, Lib.hid ⟨_, ?_, HV3.out.put k hkL ⟨xk, xm, xe, xt, xtr, xf⟩, fun j h1 h2 => ?_⟩⟩
        · exact st6_below (x := ⟨xk, xm, xe, xt, xtr, xf⟩) HB3.out (Nat.le_succ _)
        · exact st6_off (x := ⟨xk, xm, xe, xt, xtr, xf⟩) HR3.out (by omega)
        · rw [List.length_set]; exact HLn.out
        · rw [List.getElem?_set]
          by_cases hjk : k = j
          · subst hjk
            rw [if_pos rfl, if_pos hkL, ← HX.out, List.getElem?_eq_getElem h2]
          · rw [if_neg hjk]; exact HLk.out j (by omega) h2
      case measure => simp [intOf]; omega
    · obtain rfl : n = k := by omega
      obtain ⟨L, hLn, hLv, hLk⟩ := hL.out
      have hLe : L = vs := List.ext_getElem? (fun j => by
        by_cases h : j < n
        · rw [hLk j h (by rw [← HN.out]; exact h), List.getElem?_eq_getElem]
        · rw [List.getElem?_eq_none (by omega), List.getElem?_eq_none (by rw [← HN.out]; omega)])
      subst hLe
      clear hLk hL
      go_upto_region 11 with fail
      have HB1 := Lib.hid (hb.out.alloc (Nat.le_of_lt hr.out.lt) (.cells cs2 84))
      have HR1 := Lib.hid (hr.out.alloc (.cells cs2 84))
      have HV1 := Lib.hid (hLv.next ((Below.refl _ wr).alloc (Nat.le_refl _) (.cells cs2 84)))
      have HI1 : Hid (IBk (wr.alloc (.cells cs2 84)) wr.heap.size (List.replicate n ⟨[], 0, 0, 0⟩)) := Lib.hid ⟨cs2, HC2.out, Lies.new wr _ _⟩
      have hqg : q + 1 < wr.heap.size := hLv.lt
      generalize wr.alloc (.cells cs2 84) = W1 at *
      generalize wr.heap.size = g at *
      clear hb hr hLv
      go_wp2_with fail
      go_loopw [51] (fun v51 wx => ∃ k : Nat, v51 = .int .i64 (k : Int) ∧ k ≤ n ∧ Hid (Below q w wx) ∧ Hid (Lies wx q 35 (valC ⟨0, 0, 0, [], false, 0⟩)) ∧ Hid (VBk wx (q + 1) L) ∧ Hid (∃ X : List It, X.length = n ∧ IBk wx g X ∧ ∀ j (h1 : j < k) (h2 : j < xs.length), X[j]? = some xs[j])) (fun v51 _ => n - (intOf v51).toNat)
      case atStart => exact ⟨0, rfl, Nat.zero_le _, HB1, HR1, HV1, Lib.hid ⟨_, by rw [List.length_replicate], HI1.out, fun j h => absurd h (Nat.not_lt_zero _)⟩⟩
      case round =>
        obtain ⟨k, rfl, hk, hb, hr, hv, hX⟩ := hrel
        clear HB1 HR1 HV1 HI1
        obtain ⟨X, hXn, hXi, hXk⟩ := hX.out
        clear hX
        by_cases hlt : k < n
        · have hkv : k < L.length := by rw [hLn]; exact hlt
          have hkx : k < xs.length := by rw [HAs.out.1]; exact hkv
          have hkks : k < ks.length := by rw [← HKl.out]; omega
          have t0 := hv.out.cell k hkv 0 (by decide)
          have t1 := hv.out.cell k hkv 1 (by decide)
          have t2 := hv.out.cell k hkv 2 (by decide)
          have t3 := hv.out.cell k hkv 3 (by decide)
          have t4 := hv.out.cell k hkv 4 (by decide)
          have t5 := hv.out.cell k hkv 5 (by decide)
          have HAk := Lib.hid (HAs.out.2 k hkks hkv hkx)
          have HXk : Hid (xs[k]? = some xs[k]) := Lib.hid (List.getElem?_eq_getElem hkx)
          have HKk := Lib.hid (HKs.out k hkks)
          have HEk1 := Lib.hid (HEk.out k hkks)
          generalize L[k] = x at *
          generalize xs[k] = y at *
          generalize ks[k] = kf at *
          have hgs : g < wr.heap.size := hXi.lt
          have HXi := Lib.hid hXi
          have HXn := Lib.hid hXn
          have HXx := Lib.hid hXk
          have hbA : ∀ o, Below wr.heap.size wr (wr.alloc o) := fun o => (Below.refl _ wr).alloc (Nat.le_refl _) o
          obtain ⟨xk, xm, xe, xt, xtr, xf⟩ := x
          simp only [valC, List.getElem?_toArray, List.getElem?_cons_zero, List.getElem?_cons_succ, Nat.add_zero] at t0 t1 t2 t3 t4 t5
          clear hXi hXk hXn hkv hkx hkks
          go_upto_region 14 with fail
          have HB3 := Lib.hid (hb.out.alloc (by omega) (.cells #[.int .i64 xk, .int .i64 xm, .int .i64 xe, .string ⟨xt.toArray⟩, .bool xtr, .int .i64 xf] 35))
          have HR3 := Lib.hid (hr.out.alloc (.cells #[.int .i64 xk, .int .i64 xm, .int .i64 xe, .string ⟨xt.toArray⟩, .bool xtr, .int .i64 xf] 35))
          have HV3 := Lib.hid (hv.out.next (hbA (.cells #[.int .i64 xk, .int .i64 xm, .int .i64 xe, .string ⟨xt.toArray⟩, .bool xtr, .int .i64 xf] 35)))
          have HI3 := Lib.hid (HXi.out.next (hbA (.cells #[.int .i64 xk, .int .i64 xm, .int .i64 xe, .string ⟨xt.toArray⟩, .bool xtr, .int .i64 xf] 35)))
          have HL3 := Lib.hid (Lies.new wr 35 #[.int .i64 xk, .int .i64 xm, .int .i64 xe, .string ⟨xt.toArray⟩, .bool xtr, .int .i64 xf])
          generalize wr.alloc (.cells #[.int .i64 xk, .int .i64 xm, .int .i64 xe, .string ⟨xt.toArray⟩, .bool xtr, .int .i64 xf] 35) = W3 at *
          generalize wr.heap.size = gb at *
          obtain ⟨x, hx⟩ : ∃ x : Val, x = ⟨xk, xm, xe, xt, xtr, xf⟩ := ⟨_, rfl⟩
          rw [← hx] at HAk
          have HL4 : Hid (Lies W3 gb 35 (valC x)) := Lib.hid (by rw [hx]; exact HL3.out)
          have HC : Hid (∀ W, Below W3.heap.size W3 W → Calls Tryz.prog kf #[valV x] W fun e w' => e = .returned (.tuple #[itV y, .int .i64 0]) ∧ Below W.heap.size W w') := Lib.hid (fun W h => HAk.out W (by rw [HQ.out]; exact HB3.out.trans (h.mono (Nat.le_of_lt HR3.out.lt))))
          clear hb hr hv HXi hbA t0 t1 t2 t3 t4 t5 hx HAk HL3
          go_cut [19, 20] from 77 (fun v19 v20 wy => ∃ bx : Nat, v19 = .pointer (some ⟨bx, 0, none⟩) ∧ v20 = .int .i64 0 ∧ W3.heap.size ≤ bx ∧ Hid (Lies wy bx 84 (itC y).toArray) ∧ Hid (Below W3.heap.size W3 wy))
          case first =>
            refine wp_region_invB (by kernel_rfl) (by kernel_rfl) (fun a0 => 77 ≤ a0.tmps.size ∧ a0.eval (.tmp 1) = .slice (some ⟨bk, 0, none⟩) kl kl ∧ a0.eval (.tmp 17) = .int .i64 (k : Int) ∧ a0.eval (.tmp 18) = .pointer (some ⟨gb, 0, none⟩)) (GI [57, 58, 59, 60, 61, 62, 56, 63, 64, 19, 20] (tabAt bk kl k kf x y) W3 9 19 10 84 (itC ⟨[], 0, 0, 0⟩).toArray (fun c _ => c = (itC y).toArray)) ⟨by simp, rfl, rfl, rfl⟩ (GI.start _ _ (Below.refl _ _).drew) ?_ ?_
            · rintro a0 ⟨hs, h1, h17, h18⟩ listed a1 w1 j o hsz hI hun ho hdeps
              have hk : GOk [57, 58, 59, 60, 61, 62, 56, 63, 64, 19, 20] (tabAt bk kl k kf x y) 9 19 10 77 84 4 (fun c _ => c = (itC y).toArray) := ⟨rfl, by
                intro e he
                simp only [tabAt, List.mem_cons, List.not_mem_nil, or_false] at he
                rcases he with rfl | rfl | rfl | rfl | rfl | rfl | rfl | rfl | rfl | rfl <;> exact last_is _ _ _, fun _ _ _ h _ => h, fun _ _ _ _ _ _ h _ _ => h⟩
              have hj := Up.of_false hun
              have hj12 : j < 12 := by rw [hsz] at hj; exact hj
              have e1 : a1.eval (.tmp 1) = .slice (some ⟨bk, 0, none⟩) kl kl := (hI.off.eval (by decide)).trans h1
              have e17 : a1.eval (.tmp 17) = .int .i64 (k : Int) := (hI.off.eval (by decide)).trans h17
              have e18 : a1.eval (.tmp 18) = .pointer (some ⟨gb, 0, none⟩) := (hI.off.eval (by decide)).trans h18
              have hkk : k < kl := by omega
              have m0 : w1.cell? ⟨bk, k, none⟩ = some (fnV kf) := (hI.bel.cell (p := ⟨bk, k, none⟩) (by have := HB3.out.size; rw [HQ.out] at *; dsimp only; omega)).trans ((HB3.out.cell (p := ⟨bk, k, none⟩) hbk).trans HKk.out)
              have hL1 : Lies w1 gb 35 (valC x) := (hI.bel.block gb HL4.out.lt).trans HL4.out
              have m1 := hL1.cell 0
              have m2 := hL1.cell 1
              have m3 := hL1.cell 2
              have m4 := hL1.cell 3
              have m5 := hL1.cell 4
              have m6 := hL1.cell 5
              simp only [valC, List.getElem?_toArray, List.getElem?_cons_zero, List.getElem?_cons_succ] at m1 m2 m3 m4 m5 m6
              clear h1 h17 h18 hL1
              rcases (by omega : j = 0 ∨ j = 1 ∨ j = 2 ∨ j = 3 ∨ j = 4 ∨ j = 5 ∨ j = 6 ∨ j = 7 ∨ j = 8 ∨ j = 9 ∨ j = 10 ∨ j = 11) with rfl | rfl | rfl | rfl | rfl | rfl | rfl | rfl | rfl | rfl | rfl | rfl
              · have ho2 := ho
                simp only [List.getElem?_toArray, List.getElem?_cons_zero, Option.some.injEq] at ho2
                subst ho2
                exact gi_val hk hI hs (.head _) (.slice (some ⟨bk, 0, none⟩) kl kl) _ hun ho rfl rfl (by simp [execOp, go_sem, tget e1]) (Below.refl _ _) rfl
              · have ho2 := ho
                simp only [List.getElem?_toArray, List.getElem?_cons_zero, List.getElem?_cons_succ, Option.some.injEq] at ho2
                subst ho2
                exact gi_val hk hI hs (.tail _ (.head _)) (.int .i64 (k : Int)) _ hun ho rfl rfl (by simp [execOp, go_sem, tget e17]) (Below.refl _ _) rfl
              · have ho2 := ho
                simp only [List.getElem?_toArray, List.getElem?_cons_zero, List.getElem?_cons_succ, Option.some.injEq] at ho2
                subst ho2
                have d0 : Up listed 0 := hdeps { on := 0, ground := .data } (by simp) rfl
                have p57 : a1.eval (.tmp 57) = (.slice (some ⟨bk, 0, none⟩) kl kl) := hI.pt (0, 57, Is (.slice (some ⟨bk, 0, none⟩) kl kl)) (.head _) d0
                have d1 : Up listed 1 := hdeps { on := 1, ground := .data } (by simp) rfl
                have p58 : a1.eval (.tmp 58) = (.int .i64 (k : Int)) := hI.pt (1, 58, Is (.int .i64 (k : Int))) (.tail _ (.head _)) d1
                exact gi_val hk hI hs (.tail _ (.tail _ (.head _))) (.pointer (some ⟨bk, k, none⟩)) _ hun ho rfl rfl (by simp [execOp, go_sem, tget p57, tget p58, hkk]) (Below.refl _ _) rfl
              · have ho2 := ho
                simp only [List.getElem?_toArray, List.getElem?_cons_zero, List.getElem?_cons_succ, Option.some.injEq] at ho2
                subst ho2
                have d2 : Up listed 2 := hdeps { on := 2, ground := .data } (by simp) rfl
                have p59 : a1.eval (.tmp 59) = (.pointer (some ⟨bk, k, none⟩)) := hI.pt (2, 59, Is (.pointer (some ⟨bk, k, none⟩))) (.tail _ (.tail _ (.head _))) d2
                exact gi_val hk hI hs (.tail _ (.tail _ (.tail _ (.head _)))) (fnV kf) _ hun ho rfl rfl (by simp [execOp, go_sem, tget p59, fnV, m0]) (Below.refl _ _) rfl
              · have ho2 := ho
                simp only [List.getElem?_toArray, List.getElem?_cons_zero, List.getElem?_cons_succ, Option.some.injEq] at ho2
                subst ho2
                exact gi_val hk hI hs (.tail _ (.tail _ (.tail _ (.tail _ (.head _))))) (valV x) _ hun ho rfl rfl (by simp [execOp, go_sem, tget e18, valV, valC, m1, m2, m3, m4, m5, m6]) (Below.refl _ _) rfl
              · have ho2 := ho
                simp only [List.getElem?_toArray, List.getElem?_cons_zero, List.getElem?_cons_succ, Option.some.injEq] at ho2
                subst ho2
                have d3 : Up listed 3 := hdeps { on := 3, ground := .data } (by simp) rfl
                have p60 : a1.eval (.tmp 60) = (fnV kf) := hI.pt (3, 60, Is (fnV kf)) (.tail _ (.tail _ (.tail _ (.head _)))) d3
                have d4 : Up listed 4 := hdeps { on := 4, ground := .data } (by simp) rfl
                have p61 : a1.eval (.tmp 61) = (valV x) := hI.pt (4, 61, Is (valV x)) (.tail _ (.tail _ (.tail _ (.tail _ (.head _))))) d4
                refine gi_call hk hI hs (.tail _ (.tail _ (.tail _ (.tail _ (.tail _ (.head _)))))) kf #[valV x] hun ho rfl rfl (by simp [execOp, go_sem, tget p60, tget p61, fnV, HEk1.out]) ?_
                refine (HC.out w1 hI.bel).mono ?_
                rintro e w2 ⟨rfl, hb⟩
                exact ⟨_, rfl, hb, rfl⟩
              · have ho2 := ho
                simp only [List.getElem?_toArray, List.getElem?_cons_zero, List.getElem?_cons_succ, Option.some.injEq] at ho2
                subst ho2
                have d5 : Up listed 5 := hdeps { on := 5, ground := .data } (by simp) rfl
                have p62 : a1.eval (.tmp 62) = (.tuple #[itV y, .int .i64 0]) := hI.pt (5, 62, Is (.tuple #[itV y, .int .i64 0])) (.tail _ (.tail _ (.tail _ (.tail _ (.tail _ (.head _)))))) d5
                exact gi_val hk hI hs (.tail _ (.tail _ (.tail _ (.tail _ (.tail _ (.tail _ (.head _))))))) (.tuple #[itV y, .int .i64 0]) _ hun ho rfl rfl (by simp [execOp, go_sem, tget p62]) (Below.refl _ _) rfl
              · have ho2 := ho
                simp only [List.getElem?_toArray, List.getElem?_cons_zero, List.getElem?_cons_succ, Option.some.injEq] at ho2
                subst ho2
                have d6 : Up listed 6 := hdeps { on := 6, ground := .data } (by simp) rfl
                have p56 : a1.eval (.tmp 56) = (.tuple #[itV y, .int .i64 0]) := hI.pt (6, 56, Is (.tuple #[itV y, .int .i64 0])) (.tail _ (.tail _ (.tail _ (.tail _ (.tail _ (.tail _ (.head _))))))) d6
                exact gi_val hk hI hs (.tail _ (.tail _ (.tail _ (.tail _ (.tail _ (.tail _ (.tail _ (.head _)))))))) (itV y) _ hun ho rfl rfl (by simp [execOp, go_sem, tget p56]) (Below.refl _ _) rfl
              · have ho2 := ho
                simp only [List.getElem?_toArray, List.getElem?_cons_zero, List.getElem?_cons_succ, Option.some.injEq] at ho2
                subst ho2
                have d6 : Up listed 6 := hdeps { on := 6, ground := .data } (by simp) rfl
                have p56 : a1.eval (.tmp 56) = (.tuple #[itV y, .int .i64 0]) := hI.pt (6, 56, Is (.tuple #[itV y, .int .i64 0])) (.tail _ (.tail _ (.tail _ (.tail _ (.tail _ (.tail _ (.head _))))))) d6
                exact gi_val hk hI hs (.tail _ (.tail _ (.tail _ (.tail _ (.tail _ (.tail _ (.tail _ (.tail _ (.head _))))))))) (.int .i64 0) _ hun ho rfl rfl (by simp [execOp, go_sem, tget p56]) (Below.refl _ _) rfl
              · have ho2 := ho
                simp only [List.getElem?_toArray, List.getElem?_cons_zero, List.getElem?_cons_succ, Option.some.injEq] at ho2
                subst ho2
                exact gi_alloc hk hI hs hun ho rfl rfl (fun W => by simp [execOp, go_sem, itC])
              · have ho2 := ho
                simp only [List.getElem?_toArray, List.getElem?_cons_zero, List.getElem?_cons_succ, Option.some.injEq] at ho2
                subst ho2
                have d9 : Up listed 9 := hdeps { on := 9, ground := .data } (by simp) rfl
                have d7 : Up listed 7 := hdeps { on := 7, ground := .data } (by simp) rfl
                have p63 : a1.eval (.tmp 63) = (itV y) := hI.pt (7, 63, Is (itV y)) (.tail _ (.tail _ (.tail _ (.tail _ (.tail _ (.tail _ (.tail _ (.head _)))))))) d7
                exact gi_store hk hI hun ho rfl rfl d9 (itC y) rfl rfl rfl (fun bx g1 g2 => by
                  have c0 := g2.cell 0
                  have c1 := g2.cell 1
                  have c2 := g2.cell 2
                  have c3 := g2.cell 3
                  have k0 := g2.frozen 0
                  have k1 := g2.frozen 1
                  have k2 := g2.frozen 2
                  have k3 := g2.frozen 3
                  simp at c0 c1 c2 c3
                  simp [execOp, go_sem, tget p63, itV, itemV, itC, tget g1, putL, c0, k0, c1, k1, c2, k2, c3, k3])
              · have ho2 := ho
                simp only [List.getElem?_toArray, List.getElem?_cons_zero, List.getElem?_cons_succ, Option.some.injEq] at ho2
                subst ho2
                have d8 : Up listed 8 := hdeps { on := 8, ground := .data } (by simp) rfl
                have p64 : a1.eval (.tmp 64) = (.int .i64 0) := hI.pt (8, 64, Is (.int .i64 0)) (.tail _ (.tail _ (.tail _ (.tail _ (.tail _ (.tail _ (.tail _ (.tail _ (.head _))))))))) d8
                exact gi_val hk hI hs (.tail _ (.tail _ (.tail _ (.tail _ (.tail _ (.tail _ (.tail _ (.tail _ (.tail _ (.head _)))))))))) (.int .i64 0) _ hun ho rfl rfl (by simp [execOp, go_sem, tget p64]) (Below.refl _ _) rfl
            · intro listed a1 w1 hI hup
              obtain ⟨bx, b1, b2, -, b4⟩ := hI.al (hup 9 (by decide))
              obtain ⟨c, rfl, hl2⟩ := b4 (hup 10 (by decide))
              have h20 : a1.eval (.tmp 20) = .int .i64 0 := hI.pt (11, 20, Is (.int .i64 0)) (.tail _ (.tail _ (.tail _ (.tail _ (.tail _ (.tail _ (.tail _ (.tail _ (.tail _ (.head _)))))))))) (hup 11 (by decide))
              have hbel := hI.bel
              obtain ⟨ff, rfl, hf⟩ := hI.off.forms
              have f19 : ff 19 = .pointer (some ⟨bx, 0, none⟩) := (hf 19).trans b1
              have f20 : ff 20 = .int .i64 0 := (hf 20).trans h20
              clear hI
              simp only [List.foldl, Act.put, List.setIfInBounds_toArray, List.set, f19, f20]
              simp only [Exit.then]
              go_step
              go_meet
              exact ⟨bx, rfl, rfl, b2, Lib.hid hl2, Lib.hid hbel⟩
          case rest =>
            obtain ⟨bx, rfl, rfl, hbx, hLi, hBe⟩ := hcut
            have HB4 := Lib.hid (HB3.out.trans (hBe.out.mono (Nat.le_of_lt HR3.out.lt)))
            have HR4 := Lib.hid (HR3.out.next hBe.out)
            have HV4 := Lib.hid (HV3.out.next hBe.out)
            have HI4 := Lib.hid (HI3.out.next hBe.out)
            have hkX : k < X.length := by rw [HXn.out]; exact hlt
            have r0 := hLi.out.cell 0
            have r1 := hLi.out.cell 1
            have r2 := hLi.out.cell 2
            have r3 := hLi.out.cell 3
            simp only [itC, List.getElem?_toArray, List.getElem?_cons_zero, List.getElem?_cons_succ] at r0 r1 r2 r3
            have t0 := HI4.out.cell k hkX 0 (by decide)
            have t1 := HI4.out.cell k hkX 1 (by decide)
            have t2 := HI4.out.cell k hkX 2 (by decide)
            have t3 := HI4.out.cell k hkX 3 (by decide)
            simp only [itC, List.getElem?_cons_zero, List.getElem?_cons_succ, Nat.add_zero] at t0 t1 t2 t3
            have f0 := HI4.out.frozen (k * 4)
            have f1 := HI4.out.frozen (k * 4 + 1)
            have f2 := HI4.out.frozen (k * 4 + 2)
            have f3 := HI4.out.frozen (k * 4 + 3)
            clear HB3 HR3 HV3 HI3 hBe hLi HL4 HC hbx
            go_wp2_with fail
            go_roundw
            case rel =>
              refine ⟨k + 1, by go_num, by omega, Lib.hid ?_, Lib.hid ?_, Lib.hid ?_, Lib.hid ⟨_, ?_, HI4.out.put k hkX y, fun j h1 h2 => ?_⟩⟩
              · exact st4_below (x := y) HB4.out (by omega)
              · exact st4_off (x := y) HR4.out (by omega)
              · obtain ⟨cs, h1, h2⟩ := HV4.out
                exact ⟨cs, h1, st4_off (x := y) h2 (by omega)⟩
              · rw [List.length_set]; exact HXn.out
              · rw [List.getElem?_set]
                by_cases hjk : k = j
                · subst hjk
                  rw [if_pos rfl, if_pos hkX, ← HXk.out, List.getElem?_eq_getElem h2]
                · rw [if_neg hjk]; exact HXx.out j (by omega) h2
            case measure => simp [intOf]; omega
        · obtain rfl : n = k := by omega
          have hXe : X = xs := List.ext_getElem? (fun j => by
            by_cases h : j < n
            · have hjx : j < xs.length := by rw [HAs.out.1]; omega
              rw [hXk j h hjx, List.getElem?_eq_getElem]
            · rw [List.getElem?_eq_none (by omega), List.getElem?_eq_none (by rw [HAs.out.1]; omega)])
          subst hXe
          have CF := Lib.hid (HF.out wr g hb.out hXi)
          rw [hLn] at CF
          have e0 := hr.out.cell 0
          have e1 := hr.out.cell 1
          have e2 := hr.out.cell 2
          have e3 := hr.out.cell 3
          have e4 := hr.out.cell 4
          have e5 := hr.out.cell 5
          simp only [valC, List.getElem?_toArray, List.getElem?_cons_zero, List.getElem?_cons_succ] at e0 e1 e2 e3 e4 e5
          clear hXk hXi hv
          have hqs : q < wr.heap.size := hr.out.lt
          go_wp2_with fail
          refine CF.out.mono ?_
          rintro e w3 ⟨rfl, hb3⟩
          have HB3 := Lib.hid (hb.out.trans (hb3.mono (Nat.le_of_lt hqs)))
          have HR3 := Lib.hid (hr.out.next hb3)
          have x0 := HR3.out.cell 0
          have x1 := HR3.out.cell 1
          have x2 := HR3.out.cell 2
          have x3 := HR3.out.cell 3
          have x4 := HR3.out.cell 4
          have x5 := HR3.out.cell 5
          have f0 := HR3.out.frozen 0
          have f1 := HR3.out.frozen 1
          have f2 := HR3.out.frozen 2
          have f3 := HR3.out.frozen 3
          have f4 := HR3.out.frozen 4
          have f5 := HR3.out.frozen 5
          simp only [valC, List.getElem?_toArray, List.getElem?_cons_zero, List.getElem?_cons_succ] at x0 x1 x2 x3 x4 x5
          clear hb3 hb hr CF e0 e1 e2 e3 e4 e5
          obtain ⟨rk, rm, re, rt, rtr, rf⟩ := r
          dsimp only [valV, valC]
          go_wp2_with fail
          refine bodyPost_ret (v := .agg #[.int .i64 rk, .int .i64 rm, .int .i64 re, .string ⟨rt.toArray⟩, .bool rtr, .int .i64 rf]) (by simp [results, Tryz.results61, go_sem, x0, x1, x2, x3, x4, x5]) rfl ?_
          refine ⟨rfl, ?_⟩
          rw [HQ.out]
          exact st6_below (i := 0) (x := ⟨rk, rm, re, rt, rtr, rf⟩) HB3.out (Nat.le_refl _)
/-- a block that begins with these values -/
def VP (W : World) (b : Nat) (vs : List Val) : Prop := ∃ cs : Array Value, Lies W b 35 cs ∧ cs.toList.take (vs.length * 6) = vcells vs
theorem VP.next {W W' : World} {b : Nat} {vs : List Val} (h : VP W b vs) (hb : Below W.heap.size W W') : VP W' b vs := by
  obtain ⟨cs, h1, h2⟩ := h
  exact ⟨cs, h1.next hb, h2⟩
theorem VP.lt {W : World} {b : Nat} {vs : List Val} (h : VP W b vs) : b < W.heap.size := by
  obtain ⟨cs, h1, _⟩ := h
  exact h1.lt
theorem VP.put {W : World} {b : Nat} {vs : List Val} (h : VP W b vs) {ty : TypeId} (hty : ty ≠ 35) {bx : Nat} {cs : Array Value} (hL : Lies W bx ty cs) (i : Nat) (u : Value) : VP (W.setCell ⟨bx, i, none⟩ u) b vs := by
  obtain ⟨ds, h1, h2⟩ := h
  refine ⟨ds, lies_off h1 (fun e => ?_) i u, h2⟩
  subst e
  unfold Lies at h1 hL
  rw [h1] at hL
  injection hL with hL
  injection hL with _ hL _
  exact hty hL.symm
theorem VP.cell {W : World} {b : Nat} {L : List Val} (h : VP W b L) (k : Nat) (hk : k < L.length) (m : Nat) (hm : m < 6) : W.cell? ⟨b, k * 6 + m, none⟩ = (valC L[k])[m]? := by
  obtain ⟨cs, h1, h2⟩ := h
  rw [h1.cell, ← vcells_at L k m hk hm, ← h2, List.getElem?_take_of_lt (by omega), Array.getElem?_toList]
theorem VP.row {W : World} {b : Nat} {vs : List Val} (h : VP W b vs) : VRow W b 0 vs := by
  refine ⟨h.lt, fun j hj => ?_⟩
  simp only [Nat.zero_add]
  exact ⟨(h.cell j hj 0 (by decide)), (h.cell j hj 1 (by decide)), (h.cell j hj 2 (by decide)), (h.cell j hj 3 (by decide)), (h.cell j hj 4 (by decide)), (h.cell j hj 5 (by decide))⟩
theorem VP.sl {W : World} {b : Nat} {vs : List Val} (h : VP W b vs) : VSl W (some ⟨b, 0, none⟩) vs := fun _ => ⟨b, 0, rfl, h.row⟩
theorem VP.own {W : World} {base n : Nat} {v : Value} {vs : List Val} (h : W.ownsRow base 35 6 v n (vcells vs)) (hn : n = vs.length) (h0 : 0 < n) : ∃ g cap, v = .slice (some ⟨g, 0, none⟩) n cap ∧ n ≤ cap ∧ VP W g vs := by
  obtain ⟨_, ⟨_, hz⟩ | ⟨g, cap, cur, e1, _, e3, e4, _, _, e7⟩⟩ := h
  · omega
  · exact ⟨g, cap, e1, e4, cur, e3, by rw [← hn]; exact e7⟩
theorem VP.new (W : World) (v : Val) : VP (W.alloc (.cells (valC v) 35)) W.heap.size [v] := ⟨_, Lies.new W _ _, rfl⟩
/-- a value that is an array in memory -/
def AIn (v : Value) (r c : Int) (vs : List Val) (W : World) : Prop := ∃ b cap, v = .agg #[.int .i64 r, .int .i64 c, .slice (some ⟨b, 0, none⟩) vs.length cap] ∧ VP W b vs
theorem AIn.next {W W' : World} {v : Value} {r c : Int} {vs : List Val} (h : AIn v r c vs W) (hb : Below W.heap.size W W') : AIn v r c vs W' := by
  obtain ⟨b, cap, e, h1⟩ := h
  exact ⟨b, cap, e, h1.next hb⟩
theorem last_ain {ty : TypeId} {sz : Nat} (hty : ty ≠ 35) (r c : Int) (vs : List Val) : Last ty sz (fun v w => AIn v r c vs w) :=
  ⟨fun _ _ _ h hb => h.next hb, fun _ _ _ _ i u ⟨b, cap, e, h⟩ hL _ => ⟨b, cap, e, h.put hty hL i u⟩⟩
theorem make_one (W : World) : (Instr.makeSlice 23 (.int .i64 0) (.int .i64 1)).run Tryz.prog W = .ok (.slice (some ⟨W.heap.size, 0, none⟩) 0 1) (W.alloc (.cells (valC ⟨0, 0, 0, [], false, 0⟩) 35)) := by kernel_rfl
/-- the post of what through makes -/
def ThrPost (r : Val) (w : World) (e : Ending) (w' : World) : Prop := ∃ v, e = .returned v ∧ AIn v 1 1 [r] w' ∧ Below w.heap.size w w'
set_option maxRecDepth 100000 in
set_option maxHeartbeats 6400000 in
theorem through1_any (f p : Nat) (ks : List Nat) (vs : List Val) (xs : List It) (r : Val) (bk b off cap : Nat) (w : World) (hef : ∀ args W, (callFunc f args).run Tryz.prog W = .ok (.enter f args) W) (hek : Enters ks) (hkn : vs.length ≤ ks.length) (hk4 : ks.length ≤ 4) (h0 : 0 < vs.length)
    (hp1 : w.cell? ⟨p, 0, none⟩ = some (fnV f)) (hp2 : w.cell? ⟨p + 1, 0, none⟩ = some (.slice (some ⟨bk, 0, none⟩) ks.length ks.length)) (hpl : p + 1 < w.heap.size)
    (hks : ∀ i (h : i < ks.length), w.cell? ⟨bk, i, none⟩ = some (fnV ks[i])) (hbk : bk < w.heap.size) (ha : ARow w b off vs) (hA : Asked ks vs xs w)
    (hF : ∀ W B, Below w.heap.size w W → IBk W B xs → Calls Tryz.prog f #[.slice (some ⟨B, 0, none⟩) vs.length vs.length] W fun e w' => e = .returned (valV r) ∧ Below W.heap.size W w') :
    Calls Tryz.prog 60 #[.slice (some ⟨b, off, none⟩) vs.length cap, .pointer (some ⟨p, 0, none⟩), .pointer (some ⟨p + 1, 0, none⟩)] w (ThrPost r w) := by
  have CA : Hid (∀ W, Below w.heap.size w W → Calls Tryz.prog 61 #[fnV f, .slice (some ⟨bk, 0, none⟩) ks.length ks.length, .slice (some ⟨b, off, none⟩) vs.length cap, .int .i64 0, .int .i64 0] W fun e w' => e = .returned (valV r) ∧ Below W.heap.size W w') := Lib.hid (fun W hb => at_any f ks vs xs r bk b off cap W hef hek hkn hk4 (fun i h => (hb.cell (p := ⟨bk, i, none⟩) hbk).trans (hks i h)) (Nat.lt_of_lt_of_le hbk hb.size) (ha.next hb) ⟨hA.1, fun i h1 h2 h3 W' hW' => hA.2 i h1 h2 h3 W' (hb.trans (hW'.mono hb.size))⟩ (fun W' B hW' => hF W' B (hb.trans (hW'.mono hb.size))))
  have HA := Lib.hid ha
  have hn4 : vs.length ≤ 4 := Nat.le_trans hkn hk4
  obtain ⟨n, hn⟩ : ∃ n, n = vs.length := ⟨_, rfl⟩
  obtain ⟨kl, hkl⟩ : ∃ n, n = ks.length := ⟨_, rfl⟩
  have HN := Lib.hid hn
  rw [← hn] at h0 hn4 ⊢
  rw [← hn, ← hkl] at CA
  rw [← hkl] at hp2
  unfold fnV at hp1 CA
  have HP1 := Lib.hid hp1
  have HP2 := Lib.hid hp2
  clear hef hek hkn hk4 hks hbk ha hA hF hn hkl hp1 hp2
  go_enter Tryz.func60, Tryz.ntmps60
  go_upto_region 2 with fail
  have HB1 : Hid (Below w.heap.size w (w.alloc (.cells #[.int .i64 0, .int .i64 0, .slice none 0 0] 25))) := Lib.hid ((Below.refl _ w).alloc (Nat.le_refl _) _)
  have HR1 : Hid (Lies (w.alloc (.cells #[.int .i64 0, .int .i64 0, .slice none 0 0] 25)) w.heap.size 25 #[.int .i64 0, .int .i64 0, .slice none 0 0]) := Lib.hid (Lies.new w _ _)
  generalize w.alloc (.cells #[.int .i64 0, .int .i64 0, .slice none 0 0] 25) = W1 at *
  generalize hqe : w.heap.size = q at *
  have HQ := Lib.hid hqe
  clear hqe
  go_wp2_with fail
  go_loopw [14, 5, 6] (fun v14 v5 v6 wx => ∃ k : Nat, v14 = .int .i64 (k : Int) ∧ k ≤ n ∧ (k = 0 ∧ v5 = .int .i64 0 ∧ v6 = .int .i64 0 ∨ 0 < k ∧ v5 = .int .i64 1 ∧ v6 = .int .i64 1) ∧ Hid (Below q w wx) ∧ Hid (Lies wx q 25 #[.int .i64 0, .int .i64 0, .slice none 0 0])) (fun v14 _ _ _ => n - (intOf v14).toNat)
  case atStart => exact ⟨0, rfl, Nat.zero_le _, .inl ⟨rfl, rfl, rfl⟩, HB1, HR1⟩
  case round =>
    obtain ⟨k, rfl, hk, h56, hb, hr⟩ := hrel
    clear HB1 HR1
    by_cases hlt : k < n
    · have hkv : k < vs.length := by rw [← HN.out]; exact hlt
      have hAk := HA.out.2 k hkv
      have hbw : b < q := by rw [← HQ.out]; exact HA.out.1
      obtain ⟨a0, a1, A, cA, a2, hsl⟩ := hAk
      have b0 := (hb.out.cell (p := ⟨b, off + k * 3, none⟩) hbw).trans a0
      have b1 := (hb.out.cell (p := ⟨b, off + k * 3 + 1, none⟩) hbw).trans a1
      have b2 := (hb.out.cell (p := ⟨b, off + k * 3 + 2, none⟩) hbw).trans a2
      have hqs : q < wr.heap.size := hr.out.lt
      clear a0 a1 a2 hsl hkv hbw
      go_upto_region 5 with fail
      have HB3 := Lib.hid (hb.out.alloc (Nat.le_of_lt hqs) (.cells #[.int .i64 1, .int .i64 1, .slice A 1 cA] 25))
      have HR3 := Lib.hid (hr.out.alloc (.cells #[.int .i64 1, .int .i64 1, .slice A 1 cA] 25))
      have HL3 := Lib.hid (Lies.new wr 25 #[.int .i64 1, .int .i64 1, .slice A 1 cA])
      generalize wr.alloc (.cells #[.int .i64 1, .int .i64 1, .slice A 1 cA] 25) = W3 at *
      generalize wr.heap.size = g at *
      have r0 := HL3.out.cell 0
      have r1 := HL3.out.cell 1
      simp only [List.getElem?_toArray, List.getElem?_cons_zero, List.getElem?_cons_succ] at r0 r1
      clear hb hr b0 b1 b2
      rcases h56 with ⟨rfl, rfl, rfl⟩ | ⟨hk0, rfl, rfl⟩
      · go_region
        go_wp2_with fail
        go_roundw
        case rel => exact ⟨0 + 1, by go_num, by omega, .inr ⟨by omega, rfl, rfl⟩, Lib.hid HB3.out.drew, HR3⟩
        case measure => simp [intOf]; omega
      · go_region
        go_wp2_with fail
        go_roundw
        case rel => exact ⟨k + 1, by go_num, by omega, .inr ⟨by omega, rfl, rfl⟩, Lib.hid HB3.out.drew, HR3⟩
        case measure => simp [intOf]; omega
    · obtain rfl : n = k := by omega
      rcases h56 with ⟨rfl, -, -⟩ | ⟨-, rfl, rfl⟩
      · omega
      have mk := make_one
      go_upto_region 10 with fail
      have HB4 := Lib.hid (hb.out.alloc (Nat.le_of_lt hr.out.lt) (.cells (valC ⟨0, 0, 0, [], false, 0⟩) 35))
      have HR4 := Lib.hid (hr.out.alloc (.cells (valC ⟨0, 0, 0, [], false, 0⟩) 35))
      have hqs : q < wr.heap.size := hr.out.lt
      have HO4 : Hid ((wr.alloc (.cells (valC ⟨0, 0, 0, [], false, 0⟩) 35)).ownsRow (q + 1) 35 6 (.slice (some ⟨wr.heap.size, 0, none⟩) 0 1) 0 []) := Lib.hid (World.ownsRow_made wr _ 1 (by omega) (by decide) rfl)
      generalize wr.alloc (.cells (valC ⟨0, 0, 0, [], false, 0⟩) 35) = W4 at *
      generalize wr.heap.size = g at *
      have hsz : w.heap.size ≤ W4.heap.size := HB4.out.size
      have hpw : p + 1 < q := hpl
      have p1 := (HB4.out.cell (p := ⟨p, 0, none⟩) (show p < q by omega)).trans HP1.out
      have p2 := (HB4.out.cell (p := ⟨p + 1, 0, none⟩) hpw).trans HP2.out
      have C4 := Lib.hid (CA.out W4 HB4.out)
      obtain ⟨i1, gi, gz0, gz1, gz2⟩ := info_parts infoVal
      clear mk hb hr CA hpl hpw
      go_wp2_with fail
      refine wp_loop_rounds 2 ?_
      rw [rounds_succ]
      go_wp2_with fail
      refine wp_loop_rounds 2 ?_
      rw [rounds_succ]
      go_wp2_with fail
      refine C4.out.mono ?_
      rintro e w5 ⟨rfl, hb5⟩
      have hqs4 : q < W4.heap.size := HR4.out.lt
      have HB5 := Lib.hid (HB4.out.trans (hb5.mono (Nat.le_of_lt hqs4)))
      have HR5 := Lib.hid (HR4.out.next hb5)
      have HO5 := Lib.hid (own_next hb5 HO4.out)
      have hsz5 := hb5.size
      clear hb5 HB4 HR4 HO4 C4 p1 p2
      obtain ⟨rk, rm, re, rt, rtr, rf⟩ := r
      dsimp only [valV, valC]
      go_wp2_with (at_builtin; refine wpList_append_own _ rfl _ _ 23 rfl (q + 1) 35 i1 (.agg (valC ⟨0, 0, 0, [], false, 0⟩)) 6 56 Tryz.underlying23 gi gz0 gz1 gz2 rfl (by decide) _ _ _ rfl (World.ownsRow.alloc HO5.out _) ⟨w5.heap.size, 0, none⟩ 1 1 [.int .i64 rk, .int .i64 rm, .int .i64 re, .string ⟨rt.toArray⟩, .bool rtr, .int .i64 rf] rfl rfl ?c1 ?c2 ?c3 ?c4 ?c5 ?_)
      try
        case c1 =>
          intro j u hj
          match j, hj with
          | 0, hj => simp at hj; subst hj; simp [Addr.add]
          | 1, hj => simp at hj; subst hj; simp [Addr.add]
          | 2, hj => simp at hj; subst hj; simp [Addr.add]
          | 3, hj => simp at hj; subst hj; simp [Addr.add]
          | 4, hj => simp at hj; subst hj; simp [Addr.add]
          | 5, hj => simp at hj; subst hj; simp [Addr.add]
          | j + 6, hj => simp at hj
      try
        case c2 =>
          intro u hu
          simp at hu
          rcases hu with rfl | rfl | rfl | rfl | rfl | rfl <;> rfl
      case c3 => unfold maxLen; omega
      case c4 => omega
      case c5 => rw [World.size_alloc]; omega
      intro v' W6 hown' hgrow _
      have HB6 : Hid (Below q w W6) := Lib.hid ((HB5.out.alloc (by omega) _).grown hgrow (by rw [World.size_alloc]; omega) (fun r e => by have := ((World.ownsRow.alloc HO5.out (.cells #[.int .i64 rk, .int .i64 rm, .int .i64 re, .string ⟨rt.toArray⟩, .bool rtr, .int .i64 rf] 35)).lt _ e).1; omega))
      have HR6 : Hid (Lies W6 q 25 #[.int .i64 0, .int .i64 0, .slice none 0 0]) := Lib.hid ((HR5.out.alloc _).grown hgrow (fun e => by have := ((World.ownsRow.alloc HO5.out (.cells #[.int .i64 rk, .int .i64 rm, .int .i64 re, .string ⟨rt.toArray⟩, .bool rtr, .int .i64 rf] 35)).lt _ e.symm).1; omega))
      obtain ⟨g', c', rfl, hc', hvp⟩ := VP.own (vs := [⟨rk, rm, re, rt, rtr, rf⟩]) hown' rfl (by decide)
      have HVP := Lib.hid hvp
      have x0 := HR6.out.cell 0
      have x1 := HR6.out.cell 1
      have x2 := HR6.out.cell 2
      have f0 := HR6.out.frozen 0
      have f1 := HR6.out.frozen 1
      have f2 := HR6.out.frozen 2
      simp only [List.getElem?_toArray, List.getElem?_cons_zero, List.getElem?_cons_succ] at x0 x1 x2
      clear hown' hgrow hvp HB5 HR5 HO5
      go_wp2_with fail
      rw [rounds_succ]
      go_wp2_with fail
      rw [rounds_succ]
      go_wp2_with fail
      refine bodyPost_ret (v := .agg #[.int .i64 1, .int .i64 1, .slice (some ⟨g', 0, none⟩) 1 c']) (by simp [results, Tryz.results60, go_sem, x0, x1, x2]) rfl ?_
      refine ⟨_, rfl, ⟨g', c', rfl, ?_⟩, ?_⟩
      · exact ((HVP.out.put (by decide) HR6.out 0 _).put (by decide) (HR6.out.put 0 _) 1 _).put (by decide) ((HR6.out.put 0 _).put 1 _) 2 _
      · rw [HQ.out]
        exact below_set (below_set (below_set HB6.out (Nat.le_refl _) 0 _) (Nat.le_refl _) 1 _) (Nat.le_refl _) 2 _
structure Arr where
  r : Int
  c : Int
  vs : List Val
/-- the arguments of a call, in memory -/
def Args (W : World) (b : Nat) (ar : List Arr) : Prop := b < W.heap.size ∧ ∀ j (h : j < ar.length), ∃ g cap, W.cell? ⟨b, j * 3, none⟩ = some (.int .i64 ar[j].r) ∧ W.cell? ⟨b, j * 3 + 1, none⟩ = some (.int .i64 ar[j].c) ∧ W.cell? ⟨b, j * 3 + 2, none⟩ = some (.slice (some ⟨g, 0, none⟩) ar[j].vs.length cap) ∧ VP W g ar[j].vs
theorem Args.next {W W' : World} {b : Nat} {ar : List Arr} (h : Args W b ar) (hb : Below W.heap.size W W') : Args W' b ar := by
  refine ⟨Nat.lt_of_lt_of_le h.1 hb.size, fun j hj => ?_⟩
  obtain ⟨g, cap, h1, h2, h3, h4⟩ := h.2 j hj
  exact ⟨g, cap, (hb.cell (p := ⟨b, j * 3, none⟩) h.1).trans h1, (hb.cell (p := ⟨b, j * 3 + 1, none⟩) h.1).trans h2, (hb.cell (p := ⟨b, j * 3 + 2, none⟩) h.1).trans h3, h4.next hb⟩
def Arr.fine (a : Arr) : Prop := aRight a.r a.c a.vs = true ∧ (-9223372036854775808 ≤ a.r ∧ a.r ≤ 9223372036854775807) ∧ ∀ v ∈ a.vs, v.sane
/-- the table's boxes, as a call finds them -/
def TBox (q : Nat) (W : World) : Prop := ∀ j e, j < 12 → ents12[j]? = some e → Boxes W (q + 1 + 3 * j) e.f e.asks
/-- the post of a call that hands back an array -/
def ArrPost (a : Arr) (w : World) (e : Ending) (w' : World) : Prop := ∃ v, e = .returned v ∧ AIn v a.r a.c a.vs w' ∧ Below w.heap.size w w'
def CallPost (a : Arr) (w : World) (e : Ending) (w' : World) : Prop := ∃ v, e = .returned (.tuple #[v, .bool true]) ∧ AIn v a.r a.c a.vs w' ∧ Below w.heap.size w w'
set_option maxRecDepth 100000 in
set_option maxHeartbeats 6400000 in
theorem call_any (name : Bs) (least most : Nat) (k : Nat) (lb : Nat → Array Value) (i : Nat) (ar : List Arr) (b cap : Nat) (out : Arr) (w : World)
    (hfind : ∀ q, Instr.findNow .string (.string ⟨name.toArray⟩) (tabA q).toList 0 = some (some (i, entV least most (.func (.func k) #[] (lb q)))))
    (hek : ∀ args W, (callFunc k args).run Tryz.prog W = .ok (.enter k args) W) (hl : least ≤ ar.length) (hm : ar.length ≤ most) (hm2 : most ≤ 32) (ha : Args w b ar) (hf : ∀ a ∈ ar, a.fine)
    (hc : ∀ W, Below w.heap.size w W → TBox (w.heap.size + 1) W → Calls Tryz.prog k (#[.slice (some ⟨b, 0, none⟩) ar.length cap] ++ lb (w.heap.size + 1)) W (ArrPost out W)) :
    Calls Tryz.prog 9 #[.string ⟨name.toArray⟩, .slice (some ⟨b, 0, none⟩) ar.length cap] w (CallPost out w) := by
  have CT := Lib.hid (table_any (w.alloc (.cells #[.int .i64 0, .int .i64 0, .slice none 0 0] 25)))
  have HA := Lib.hid ha
  have HF := Lib.hid hf
  have HC := Lib.hid hc
  have HD := Lib.hid hfind
  obtain ⟨n, hn⟩ : ∃ n, n = ar.length := ⟨_, rfl⟩
  have HN := Lib.hid hn
  rw [← hn] at hl hm HC ⊢
  have HB1 : Hid (Below w.heap.size w (w.alloc (.cells #[.int .i64 0, .int .i64 0, .slice none 0 0] 25))) := Lib.hid ((Below.refl _ w).alloc (Nat.le_refl _) _)
  have HR1 : Hid (Lies (w.alloc (.cells #[.int .i64 0, .int .i64 0, .slice none 0 0] 25)) w.heap.size 25 #[.int .i64 0, .int .i64 0, .slice none 0 0]) := Lib.hid (Lies.new w _ _)
  rw [World.size_alloc] at CT
  clear ha hf hc hfind hn
  go_enter Tryz.func9, Tryz.ntmps9
  go_wp2_with fail
  refine CT.out.mono ?_
  rintro e w2 ⟨rfl, hT⟩
  obtain ⟨t1, t2, t3, t4⟩ := hT
  rw [World.size_alloc] at t1 t2 t3 t4
  have HB2 := Lib.hid (HB1.out.trans (t3.mono (Nat.le_succ _)))
  have HR2 : Hid (Lies w2 w.heap.size 25 #[.int .i64 0, .int .i64 0, .slice none 0 0]) := Lib.hid ((t3.block w.heap.size (Nat.lt_succ_self _)).trans HR1.out)
  have HBx : Hid (TBox (w.heap.size + 1) w2) := Lib.hid t4
  have hlk := run_look_known (P := Tryz.prog) 51 9 49 (w.heap.size + 1) 15 (tabA (w.heap.size + 1)) ⟨name.toArray⟩ i _ uTab Tryz.underlying9 t2 (HD.out _)
  unfold entV at hlk
  clear t1 t2 t3 t4 CT HB1 HR1
  generalize hqe : w.heap.size = q at *
  have HQ := Lib.hid hqe
  clear hqe
  go_upto_region 2 with fail
  have hqs2 : q < w2.heap.size := HR2.out.lt
  have HB3 := Lib.hid (HB2.out.alloc (Nat.le_of_lt hqs2) (.cells #[.int .i64 (least : Int), .int .i64 (most : Int), .func (.func k) #[] (lb (q + 1))] 49))
  have HR3 := Lib.hid (HR2.out.alloc (.cells #[.int .i64 (least : Int), .int .i64 (most : Int), .func (.func k) #[] (lb (q + 1))] 49))
  have HX3 : Hid (TBox (q + 1) (w2.alloc (.cells #[.int .i64 (least : Int), .int .i64 (most : Int), .func (.func k) #[] (lb (q + 1))] 49))) := Lib.hid (fun j e h1 h2 => (HBx.out j e h1 h2).of ((Below.refl _ w2).alloc (Nat.le_refl _) _) (HBx.out j e h1 h2).2.2.2)
  have HE3 := Lib.hid (Lies.new w2 49 #[.int .i64 (least : Int), .int .i64 (most : Int), .func (.func k) #[] (lb (q + 1))])
  generalize w2.alloc (.cells #[.int .i64 (least : Int), .int .i64 (most : Int), .func (.func k) #[] (lb (q + 1))] 49) = W3 at *
  generalize w2.heap.size = ge at *
  have e0 := HE3.out.cell 0
  have e1 := HE3.out.cell 1
  simp only [List.getElem?_toArray, List.getElem?_cons_zero, List.getElem?_cons_succ] at e0 e1
  have hl' : ¬ (n : Int) < (least : Int) := by omega
  have hm' : ¬ (most : Int) < (n : Int) := by omega
  clear HB2 HR2 HBx hlk
  go_upto_region 6 with fail
  generalize hW : W3 = W4 at *
  go_wp2_with fail
  go_loopw [34] (fun v34 wx => ∃ j : Nat, v34 = .int .i64 (j : Int) ∧ j ≤ n ∧ Hid (Below q w wx) ∧ Hid (Below W4.heap.size W4 wx)) (fun v34 _ => n - (intOf v34).toNat)
  case atStart => exact ⟨0, rfl, Nat.zero_le _, HB3, Lib.hid (Below.refl _ _)⟩
  case round =>
    obtain ⟨j, rfl, hj, hb, hb4⟩ := hrel
    clear e0 e1
    by_cases hlt : j < n
    · have hjv : j < ar.length := by rw [← HN.out]; exact hlt
      obtain ⟨g, cA, a0, a1, a2, hvp⟩ := HA.out.2 j hjv
      have hfi := HF.out ar[j] (List.getElem_mem hjv)
      have hbw : b < q := by rw [← HQ.out]; exact HA.out.1
      have b0 := (hb.out.cell (p := ⟨b, j * 3, none⟩) hbw).trans a0
      have b1 := (hb.out.cell (p := ⟨b, j * 3 + 1, none⟩) hbw).trans a1
      have b2 := (hb.out.cell (p := ⟨b, j * 3 + 2, none⟩) hbw).trans a2
      have hqs : q < wr.heap.size := Nat.lt_of_lt_of_le HR3.out.lt hb4.out.size
      obtain ⟨f1, ⟨f2, f3⟩, f4⟩ := hfi
      have CV := Lib.hid (fun W (h : Below wr.heap.size wr W) => shRight_any ar[j].r ar[j].c (some ⟨g, 0, none⟩) cA ar[j].vs W f2 f3 (hvp.next (by rw [HQ.out]; exact hb.out.trans (h.mono (Nat.le_of_lt hqs)))).sl f4)
      rw [f1] at CV
      generalize ar[j] = x at *
      obtain ⟨xr, xc, xs⟩ := x
      dsimp only at b0 b1 b2 CV
      clear a0 a1 a2 hvp f1 f2 f3 f4 hjv hbw
      go_wp2_with fail
      refine (CV.out _ ?_).mono ?_
      · exact (Below.refl _ wr).alloc (Nat.le_refl _) _
      rintro e w5 ⟨rfl, hb5⟩
      have hbA : Below wr.heap.size wr w5 := ((Below.refl _ wr).alloc (Nat.le_refl _) _).trans (hb5.mono (by rw [World.size_alloc]; omega))
      have HB5 := Lib.hid (hb.out.trans (hbA.mono (Nat.le_of_lt hqs)))
      have HB6 := Lib.hid (hb4.out.trans (hbA.mono hb4.out.size))
      clear hbA hb5 hb hb4 CV b0 b1 b2
      go_wp2_with fail
      go_roundw
      case rel => exact ⟨j + 1, by go_num, by omega, HB5, HB6⟩
      case measure => simp [intOf]; omega
    · obtain rfl : n = j := by omega
      have HE5 := Lib.hid (HE3.out.next hb4.out)
      have HR5 := Lib.hid (HR3.out.next hb4.out)
      have CC := Lib.hid (HC.out wr hb.out (fun j e h1 h2 => (HX3.out j e h1 h2).of hb4.out (HX3.out j e h1 h2).2.2.2))
      have e0 := HE5.out.cell 0
      have e1 := HE5.out.cell 1
      have e2 := HE5.out.cell 2
      simp only [List.getElem?_toArray, List.getElem?_cons_zero, List.getElem?_cons_succ] at e0 e1 e2
      have hqs : q < wr.heap.size := HR5.out.lt
      clear HC HE3 HE5 HX3
      go_wp2_with fail
      refine CC.out.mono ?_
      rintro e w6 ⟨v, rfl, ⟨g, cA, rfl, hvp⟩, hb6⟩
      have HB6 := Lib.hid (hb.out.trans (hb6.mono (Nat.le_of_lt hqs)))
      have HR6 := Lib.hid (HR5.out.next hb6)
      have HVP := Lib.hid hvp
      have x0 := HR6.out.cell 0
      have x1 := HR6.out.cell 1
      have x2 := HR6.out.cell 2
      have f0 := HR6.out.frozen 0
      have f1 := HR6.out.frozen 1
      have f2 := HR6.out.frozen 2
      simp only [List.getElem?_toArray, List.getElem?_cons_zero, List.getElem?_cons_succ] at x0 x1 x2
      obtain ⟨oR, oC, oV⟩ := out
      dsimp only
      clear hb hb4 hb6 hvp CC HR5 e0 e1 e2
      go_wp2_with fail
      refine bodyPost_ret (v := .tuple #[.agg #[.int .i64 oR, .int .i64 oC, .slice (some ⟨g, 0, none⟩) oV.length cA], .bool true]) (by simp [results, Tryz.results9, go_sem, x0, x1, x2]) rfl ?_
      refine ⟨_, rfl, ⟨g, cA, rfl, ?_⟩, ?_⟩
      · exact ((HVP.out.put (by decide) HR6.out 0 _).put (by decide) (HR6.out.put 0 _) 1 _).put (by decide) ((HR6.out.put 0 _).put 1 _) 2 _
      · rw [HQ.out]
        exact below_set (below_set (below_set HB6.out (Nat.le_refl _) 0 _) (Nat.le_refl _) 1 _) (Nat.le_refl _) 2 _
/-- one value's array -/
def arr1 (v : Val) : Arr := ⟨1, 1, [v]⟩
theorem Args.row {W : World} {b : Nat} {vs : List Val} (h : Args W b (vs.map arr1)) : ARow W b 0 vs := by
  refine ⟨h.1, fun j hj => ?_⟩
  obtain ⟨g, cap, h1, h2, h3, h4⟩ := h.2 j (by simpa using hj)
  simp only [List.getElem_map, arr1] at h1 h2 h3 h4
  rw [Nat.zero_add]
  exact ⟨h1, h2, _, _, h3, h4.sl⟩
theorem enters_list {ks : List Nat} (h : ∀ k ∈ ks, ∀ args W, (callFunc k args).run Tryz.prog W = .ok (.enter k args) W) : Enters ks := fun _ hi args W => h _ (List.getElem_mem hi) args W
/-- a call of a function that goes through its arguments -/
theorem callThr_any (j : Nat) (e : Ent) (hj : j < 12) (he : ents12[j]? = some e) (least most : Nat) (vs : List Val) (xs : List It) (r : Val) (b cap : Nat) (w : World)
    (hfind : ∀ q, Instr.findNow .string (.string ⟨e.name.toArray⟩) (tabA q).toList 0 = some (some (j, entV least most (thrV (q + (1 + 3 * j))))))
    (hek : ∀ k ∈ e.f :: e.asks, ∀ args W, (callFunc k args).run Tryz.prog W = .ok (.enter k args) W) (h4 : e.asks.length ≤ 4) (hl : least ≤ vs.length) (hm : vs.length ≤ most) (hm2 : most ≤ e.asks.length) (h0 : 0 < vs.length)
    (ha : Args w b (vs.map arr1)) (hf : ∀ v ∈ vs, vRight v = true ∧ v.sane) (hA : Asked e.asks vs xs w)
    (hF : ∀ W B, Below w.heap.size w W → IBk W B xs → Calls Tryz.prog e.f #[.slice (some ⟨B, 0, none⟩) vs.length vs.length] W fun x w' => x = .returned (valV r) ∧ Below W.heap.size W w') :
    Calls Tryz.prog 9 #[.string ⟨e.name.toArray⟩, .slice (some ⟨b, 0, none⟩) vs.length cap] w (CallPost (arr1 r) w) := by
  have hlen : (vs.map arr1).length = vs.length := List.length_map ..
  have h := call_any e.name least most 60 (fun q => #[.pointer (some ⟨q + (1 + 3 * j) + 1, 0, none⟩), .pointer (some ⟨q + (1 + 3 * j) + 1 + 1, 0, none⟩)]) j (vs.map arr1) b cap (arr1 r) w hfind (enters_of Tryz.func60 (by kernel_rfl) rfl) (by omega) (by omega) (by omega) ha ?_ ?_
  · rw [hlen] at h; exact h
  · intro a hm
    obtain ⟨v, hv, rfl⟩ := List.mem_map.1 hm
    obtain ⟨h1, h2⟩ := hf v hv
    refine ⟨?_, ⟨by show (-9223372036854775808 : Int) ≤ 1; decide, by show (1 : Int) ≤ 9223372036854775807; decide⟩, ?_⟩
    · show aRight 1 1 [v] = true
      simp [aRight, pFits, h1]
    · intro u hu
      have : u = v := by simpa [arr1] using hu
      subst this
      exact h2
  · intro W hb hT
    obtain ⟨b1, b2, b3, b4⟩ := hT j e hj he
    rw [hlen]
    have hp : w.heap.size + 1 + (1 + 3 * j) = w.heap.size + 1 + 1 + 3 * j := by omega
    show Calls Tryz.prog 60 #[.slice (some ⟨b, 0, none⟩) vs.length cap, .pointer (some ⟨w.heap.size + 1 + (1 + 3 * j) + 1, 0, none⟩), .pointer (some ⟨w.heap.size + 1 + (1 + 3 * j) + 1 + 1, 0, none⟩)] W _
    rw [hp]
    refine (through1_any e.f (w.heap.size + 1 + 1 + 3 * j + 1) e.asks vs xs r (w.heap.size + 1 + 1 + 3 * j) b 0 cap W (hek _ (List.mem_cons_self ..)) (enters_list (fun k hk => hek k (List.mem_cons_of_mem _ hk))) (by omega) h4 h0 b2 b3 b4 b1 (by omega) (ha.next hb).row ⟨hA.1, fun i h1 h2 h3 W' hW' => hA.2 i h1 h2 h3 W' (hb.trans (hW'.mono hb.size))⟩ (fun W' B hW' => hF W' B (hb.trans (hW'.mono hb.size)))).mono ?_
    rintro x w' ⟨v, rfl, h1, h2⟩
    exact ⟨v, rfl, h1, h2⟩
end Go.Proofs.YtpdaloohgfnbhaaGreatDoor
