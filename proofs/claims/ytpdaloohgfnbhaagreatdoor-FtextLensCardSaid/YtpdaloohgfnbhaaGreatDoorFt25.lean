/-
  counterpaneref01.Add of any two right numbers; counterpaneref01.Int of small whole numbers; what LEN and FIND tell.
-/
import Derived.Test.YtpdaloohgfnbhaaGreatDoorRefD3
import Derived.Test.YtpdaloohgfnbhaaGreatDoorFt22
namespace Go.Proofs.YtpdaloohgfnbhaaGreatDoor
open Go.RowKit

theorem dec_fieldA (b : Bool) (A : Option Addr) (n c : Nat) (e : Int) (W : World) : (Instr.field 59 (.agg #[.bool b, .slice A n c, .int .i64 e]) 0).run Tryz.prog W = .ok (.bool b) W := by kernel_rfl
theorem Own.islB {w : World} {base : Nat} {v : Value} {L : List Nat} (h : Own w base v L) : ∃ A c, v = .slice A L.length c ∧ ISl w base A c L := by
  by_cases h0 : 0 < L.length
  · obtain ⟨g, cap, e, hs, _⟩ := own_isl h (Nat.le_refl _) h0
    exact ⟨_, _, e, hs⟩
  · obtain ⟨A, c, e, hs⟩ := h.isl
    exact ⟨A, c, e, hs.1, hs.2.1, fun h => absurd h h0⟩
theorem isl_next {w w' : World} {b : Nat} {A : Option Addr} {c : Nat} {L : List Nat} (h : ISl w b A c L) (hb : Below w.heap.size w w') : ISl w' b A c L :=
  ⟨h.1, h.2.1, fun h0 => by
    obtain ⟨g, o, e, h1, h2, h3⟩ := h.2.2 h0
    exact ⟨g, o, e, h1, Nat.lt_of_lt_of_le h2 hb.size, fun j hj => ⟨(hb.cell (p := ⟨g, _, none⟩) h2).trans (h3 j hj).1, (hb.frozen (p := ⟨g, _, none⟩) h2).trans (h3 j hj).2⟩⟩⟩
theorem isl_put {w : World} {bx : Nat} {A : Option Addr} {c : Nat} {L : List Nat} (h : ISl w (bx + 1) A c L) (i : Nat) (u : Value) : ISl (w.setCell ⟨bx, i, none⟩ u) (bx + 1) A c L :=
  ⟨h.1, h.2.1, fun h0 => by
    obtain ⟨g, o, e, h1, h2, h3⟩ := h.2.2 h0
    refine ⟨g, o, e, h1, by simpa using h2, fun j hj => ⟨?_, by simpa using (h3 j hj).2⟩⟩
    rw [World.cell?_setCell_other _ _ _ _ (by intro e5; injection e5 with e6; omega)]
    exact (h3 j hj).1⟩
theorem isl_le {w : World} {a b : Nat} {A : Option Addr} {c : Nat} {L : List Nat} (h : ISl w b A c L) (hab : a ≤ b) : ISl w a A c L :=
  ⟨h.1, h.2.1, fun h0 => by obtain ⟨g, o, e, h1, h2, h3⟩ := h.2.2 h0; exact ⟨g, o, e, Nat.le_trans hab h1, h2, h3⟩⟩
/-- Of, as it is wanted here -/
theorem of_valA (m e : Int) (w : World) (n : Nat) (hn : (dl m.natAbs).length = n) (h1 : -9223372036854775808 ≤ m) (h2 : m ≤ 9223372036854775807) :
    Calls Tryz.prog 26 #[numV m e] w fun x w' => ∃ (A : Option Addr) (c : Nat), x = .returned (.agg #[.bool (decide (m < 0)), .slice A n c, .int .i64 e]) ∧ ISl w' w.heap.size A c (dl m.natAbs) ∧ Below w.heap.size w w' := by
  subst hn
  refine (rOf_any m e w h1 h2).mono ?_
  rintro x w' ⟨v, rfl, hO, hb⟩
  obtain ⟨A, c, rfl, hs⟩ := hO.islB
  exact ⟨A, c, rfl, hs, hb⟩
def minA (e1 e2 : Int) : Int := if e2 < e1 then e2 else e1
def gAdd (m1 e1 m2 e2 : Int) : Bool × Nat := plusIs (decide (m1 < 0)) (decide (m2 < 0)) (m1.natAbs * 10 ^ (e1 - minA e1 e2).toNat) (m2.natAbs * 10 ^ (e2 - minA e1 e2).toNat)
theorem plus_add (m1 e1 m2 e2 : Int) (A B : Option Addr) (ca cb : Nat) (n1 n2 : Nat) (w : World) (hn1 : (dl m1.natAbs).length = n1) (hn2 : (dl m2.natAbs).length = n2) (hL : ISl w 0 A ca (dl m1.natAbs)) (hM : ISl w 0 B cb (dl m2.natAbs)) (hl1 : n1 ≤ 20) (hl2 : n2 ≤ 20)
    (a1 : -500 ≤ e1) (a2 : e1 ≤ 500) (b1 : -500 ≤ e2) (b2 : e2 ≤ 500) :
    Calls Tryz.prog 25 #[.agg #[.bool (decide (m1 < 0)), .slice A n1 ca, .int .i64 e1], .agg #[.bool (decide (m2 < 0)), .slice B n2 cb, .int .i64 e2]] w fun x w' =>
      ∃ (C : Option Addr) (c n : Nat) (D : List Nat), x = .returned (.agg #[.bool (gAdd m1 e1 m2 e2).1, .slice C n c, .int .i64 (minA e1 e2)]) ∧ D.length = n ∧ ISl w' w.heap.size C c D ∧ Dig D ∧ natOf D = (gAdd m1 e1 m2 e2).2 ∧ Below w.heap.size w w' := by
  subst hn1; subst hn2
  refine (plus_any (decide (m1 < 0)) (decide (m2 < 0)) A B ca cb (dl m1.natAbs) (dl m2.natAbs) e1 e2 w hL hM (dl_dig _) (dl_dig _) (by omega) (by omega) a1 a2 b1 b2).mono ?_
  rintro x w' ⟨ng, C, c, D, e, rfl, hs, hd, -, he, hsp, hb⟩
  have he' : e = minA e1 e2 := he
  subst he'
  rw [dl_nat, dl_nat] at hsp
  have h1 : ng = (gAdd m1 e1 m2 e2).1 := congrArg Prod.fst hsp
  have h2 : natOf D = (gAdd m1 e1 m2 e2).2 := congrArg Prod.snd hsp
  exact ⟨C, c, D.length, D, by rw [h1], rfl, hs, hd, h2, hb⟩
theorem near_add (G : Bool) (V : Nat) (e : Int) (C : Option Addr) (c n : Nat) (D : List Nat) (w : World) (hn : D.length = n) (hs : ISl w 0 C c D) (hd : Dig D) (hV : natOf D = V) (hv : dlen V ≤ 1000) (he1 : -2000000 ≤ e) (he2 : e ≤ 2000000) :
    Calls Tryz.prog 24 #[.agg #[.bool G, .slice C n c, .int .i64 e], .bool false] w fun x w' => x = .returned (numOut (pNear G V e)) ∧ Below w.heap.size w w' := by
  subst hn
  subst hV
  exact rNear_bare G C c D e w hs hd (by rw [← dlen_bare D hd]; exact hv) he1 he2
/-- a property of a value that lasts while memory grows, and while one block is written -/
structure LastB (bx : Nat) (p : Value → World → Prop) : Prop where
  grow : ∀ v w w', p v w → Below w.heap.size w w' → p v w'
  put : ∀ v w i u, p v w → p v (w.setCell ⟨bx, i, none⟩ u)
theorem lastB_is (bx : Nat) (c : Value) : LastB bx (Is c) := ⟨fun _ _ _ h _ => h, fun _ _ _ _ h => h⟩
/-- what stands midway in a region that draws and stores into one box that was there -/
structure GS (S : List Nat) (T : List (Nat × Nat × (Value → World → Prop))) (K : World → Prop) (bx is : Nat) (ty : TypeId) (z : Array Value) (C : Array Value → Prop) (a0 : Act) (listed : Array Bool) (a : Act) (w : World) : Prop where
  off : Off S a0 a
  pt : ∀ e ∈ T, Up listed e.1 → e.2.2 (a.eval (.tmp e.2.1)) w
  k : K w
  b1 : ¬ Up listed is → Lies w bx ty z
  b2 : Up listed is → ∃ c, C c ∧ Lies w bx ty c
def okS (nums : List (Nat × Nat)) (S : List Nat) (is N : Nat) : Bool :=
  nums.all (fun p => p.1 != is && S.contains p.2 && decide (p.2 < N)) && decide (nums.Pairwise (fun p q => p.1 ≠ q.1 ∧ p.2 ≠ q.2))
structure GSOk (S : List Nat) (T : List (Nat × Nat × (Value → World → Prop))) (K : World → Prop) (bx is N : Nat) : Prop where
  num : okS (T.map fun e => (e.1, e.2.1)) S is N = true
  last : ∀ e ∈ T, LastB bx e.2.2
  lastK : LastB bx (fun _ w => K w)
section
variable {S : List Nat} {T : List (Nat × Nat × (Value → World → Prop))} {K : World → Prop} {bx is N : Nat} {ty : TypeId} {z : Array Value} {C : Array Value → Prop} {a0 a : Act} {w : World} {listed : Array Bool} {ops : Array Oper} {Q : Exit → Act → World → Prop} {o : Oper}
theorem GSOk.parts (h : GSOk S T K bx is N) : (∀ e ∈ T, e.1 ≠ is ∧ e.2.1 ∈ S ∧ e.2.1 < N) ∧ T.Pairwise (fun e e' => e.1 ≠ e'.1 ∧ e.2.1 ≠ e'.2.1) := by
  have hn := h.num
  simp only [okS, Bool.and_eq_true, List.all_eq_true, bne_iff_ne, decide_eq_true_eq, List.contains_iff_mem, List.pairwise_map, List.mem_map, forall_exists_index, and_imp, forall_apply_eq_imp_iff₂] at hn
  obtain ⟨h1, h2⟩ := hn
  refine ⟨fun e he => ?_, h2⟩
  obtain ⟨⟨g1, g2⟩, g3⟩ := h1 e he
  exact ⟨g1, g2, g3⟩
theorem GSOk.uniq (h : GSOk S T K bx is N) {e e' : Nat × Nat × (Value → World → Prop)} (he : e ∈ T) (he' : e' ∈ T) (hs : e.1 = e'.1 ∨ e.2.1 = e'.2.1) : e = e' := by
  have hp := h.parts.2
  by_cases heq : e = e'
  · exact heq
  · exfalso
    have := pw_ne (fun a b h => ⟨h.1.symm, h.2.symm⟩) hp e he e' he' heq
    rcases hs with hs | hs
    · exact this.1 hs
    · exact this.2 hs
theorem GS.start (a : Act) (m : Nat) (hK : K w) (hL : Lies w bx ty z) : GS S T K bx is ty z C a (Array.replicate m false) a w :=
  ⟨Off.refl _ _, fun _ _ h => absurd h (Up.none _ _), hK, fun _ => hL, fun h => absurd h (Up.none _ _)⟩
theorem GS.step (hk : GSOk S T K bx is N) (hI : GS S T K bx is ty z C a0 listed a w) (hN : N ≤ a0.tmps.size) {i s : Nat} {p : Value → World → Prop} (he : (i, s, p) ∈ T) {v : Value} {w1 : World} (hun : listed.getD i true = false) (hw : Below w.heap.size w w1) (hp : p v w1) :
    GS S T K bx is ty z C a0 (listed.setIfInBounds i true) (a.put (some s) v) w1 := by
  have hi := Up.of_false hun
  obtain ⟨g1, g2, g3⟩ := hk.parts.1 _ he
  refine ⟨hI.off.put g2 v, fun e' he' hu => ?_, hk.lastK.grow undef _ _ hI.k hw, fun h => (hI.b1 (fun e => h (up_new hi e))).next hw, fun h => ?_⟩
  · by_cases hei : e'.1 = i
    · rw [hk.uniq he' he (.inl hei)]
      rw [eval_put_eq _ _ (by rw [hI.off.size]; exact Nat.lt_of_lt_of_le g3 hN)]
      exact hp
    · have hne : s ≠ e'.2.1 := fun h => hei (by rw [hk.uniq he' he (.inr h.symm)])
      rw [eval_put_ne _ _ hne]
      exact (hk.last e' he').grow _ _ _ (hI.pt e' he' (up_old hi hu hei)) hw
  · obtain ⟨c, c1, c2⟩ := hI.b2 (up_old hi h (Ne.symm g1))
    exact ⟨c, c1, c2.next hw⟩
theorem gs_val (hk : GSOk S T K bx is N) (hI : GS S T K bx is ty z C a0 listed a w) (hN : N ≤ a0.tmps.size) {i s : Nat} {p : Value → World → Prop} (he : (i, s, p) ∈ T) (v : Value) (w1 : World) (hun : listed.getD i true = false) (ho : ops[i]? = some o) (hg : o.guard = none) (hd : o.dst = some s)
    (hr : (execOp a.eval o).run Tryz.prog w = .ok (.value v) w1) (hw : Below w.heap.size w w1) (hp : p v w1) : wpOp Tryz.prog ops Q i (GS S T K bx is ty z C a0 (listed.setIfInBounds i true)) a w := by
  refine wpOp_plain ho hg (wpOpr_val v hr ?_)
  rw [hd]
  exact hI.step hk hN he hun hw hp
theorem gs_call (hk : GSOk S T K bx is N) (hI : GS S T K bx is ty z C a0 listed a w) (hN : N ≤ a0.tmps.size) {i s : Nat} {p : Value → World → Prop} (he : (i, s, p) ∈ T) (f : FuncId) (xs : Array Value) (hun : listed.getD i true = false) (ho : ops[i]? = some o) (hg : o.guard = none) (hd : o.dst = some s)
    (hr : (execOp a.eval o).run Tryz.prog w = .ok (.enter f xs) w) (hc : Calls Tryz.prog f xs w fun e w1 => ∃ v, e = .returned v ∧ Below w.heap.size w w1 ∧ p v w1) : wpOp Tryz.prog ops Q i (GS S T K bx is ty z C a0 (listed.setIfInBounds i true)) a w := by
  refine wpOp_plain ho hg ?_
  unfold Oper.wp
  rw [hr]
  refine hc.mono ?_
  rintro e w1 ⟨v, rfl, hw, hp⟩
  show GS S T K bx is ty z C a0 (listed.setIfInBounds i true) (a.put o.dst v) w1
  rw [hd]
  exact hI.step hk hN he hun hw hp
theorem lastB_putL {p : Value → World → Prop} (hl : LastB bx p) {v : Value} : ∀ (r : List Value) (i : Nat) (W : World), p v W → p v (putL W bx i r)
  | [], _, _, h => h
  | u :: r, i, _, h => lastB_putL hl r (i + 1) _ (hl.put _ _ i u h)
theorem gs_store (hk : GSOk S T K bx is N) (hI : GS S T K bx is ty z C a0 listed a w) (hun : listed.getD is true = false) (ho : ops[is]? = some o) (hg : o.guard = none) (hd : o.dst = none) (r : List Value) (hz : r.length = z.size) (hC : C r.toArray)
    (hr : Lies w bx ty z → (execOp a.eval o).run Tryz.prog w = .ok .skip (putL w bx 0 r)) : wpOp Tryz.prog ops Q is (GS S T K bx is ty z C a0 (listed.setIfInBounds is true)) a w := by
  have hi := Up.of_false hun
  have h10 := not_upO hun
  have hl := hI.b1 h10
  refine wpOp_plain ho hg (wpOpr_skip (hr hl) ?_)
  rw [hd]
  show GS S T K bx is ty z C a0 _ a _
  refine ⟨hI.off, fun e he hu => lastB_putL (hk.last e he) r 0 w (hI.pt e he (up_old hi hu (hk.parts.1 e he).1)), lastB_putL (v := undef) hk.lastK r 0 w hI.k, fun h' => absurd (up_self hi) h', fun _ => ⟨r.toArray, hC, ?_⟩⟩
  have := putL_lies r 0 w z hl (by omega)
  simpa using this
end
/-- what Of, and Plus, leave: digits beyond a block -/
def POf (bx : Nat) (s : Bool) (n : Nat) (e : Int) (L : List Nat) : Value → World → Prop := fun v w => ∃ A c, v = .agg #[.bool s, .slice A n c, .int .i64 e] ∧ ISl w (bx + 1) A c L
theorem lastB_of (bx : Nat) (s : Bool) (n : Nat) (e : Int) (L : List Nat) : LastB bx (POf bx s n e L) := ⟨fun _ _ _ ⟨A, c, e, h⟩ hb => ⟨A, c, e, isl_next h hb⟩, fun _ _ i u ⟨A, c, e, h⟩ => ⟨A, c, e, isl_put h i u⟩⟩
def PPl (bx : Nat) (s : Bool) (e : Int) (V : Nat) : Value → World → Prop := fun v w => ∃ A c n L, v = .agg #[.bool s, .slice A n c, .int .i64 e] ∧ L.length = n ∧ ISl w (bx + 1) A c L ∧ Dig L ∧ natOf L = V
theorem lastB_pl (bx : Nat) (s : Bool) (e : Int) (V : Nat) : LastB bx (PPl bx s e V) := ⟨fun _ _ _ ⟨A, c, n, L, e, h1, h, h2⟩ hb => ⟨A, c, n, L, e, h1, isl_next h hb, h2⟩, fun _ _ i u ⟨A, c, n, L, e, h1, h, h2⟩ => ⟨A, c, n, L, e, h1, isl_put h i u, h2⟩⟩
/-- the two numbers in their boxes -/
structure AddK (w0 : World) (m1 e1 m2 e2 : Int) (q : Nat) (w : World) : Prop where
  a : Lies w q 33 #[.int .i64 m1, .int .i64 e1]
  b : Lies w (q + 1) 33 #[.int .i64 m2, .int .i64 e2]
  big : q + 2 < w.heap.size
  bel : Below q w0 w
theorem AddK.next {w0 : World} {m1 e1 m2 e2 : Int} {q : Nat} {w w' : World} (h : AddK w0 m1 e1 m2 e2 q w) (hb : Below w.heap.size w w') : AddK w0 m1 e1 m2 e2 q w' :=
  ⟨h.a.next hb, h.b.next hb, Nat.lt_of_lt_of_le h.big hb.size, h.bel.trans (hb.mono (by have := h.big; omega))⟩
theorem AddK.put {w0 : World} {m1 e1 m2 e2 : Int} {q : Nat} {w : World} (h : AddK w0 m1 e1 m2 e2 q w) (i : Nat) (u : Value) : AddK w0 m1 e1 m2 e2 q (w.setCell ⟨q + 2, i, none⟩ u) :=
  ⟨lies_off h.a (by omega) i u, lies_off h.b (by omega) i u, by simpa using h.big, below_set h.bel (by omega) i u⟩
set_option maxRecDepth 100000 in
set_option maxHeartbeats 12800000 in
theorem radd_any (m1 e1 m2 e2 mo eo : Int) (w : World) (h1 : pRight m1 e1 = true) (h2 : pRight m2 e2 = true) (hv : dlen (gAdd m1 e1 m2 e2).2 ≤ 1000) (ho : pNear (gAdd m1 e1 m2 e2).1 (gAdd m1 e1 m2 e2).2 (minA e1 e2) = some (mo, eo)) :
    Calls Tryz.prog 16 #[numV m1 e1, numV m2 e2] w fun x w' => x = .returned (.tuple #[numV mo eo, .bool true]) ∧ Below w.heap.size w w' := by
  have k1 : -1000 ≤ e1 ∧ e1 ≤ 40 ∧ -40 ≤ e1 ∧ -1000000000000000 < m1 ∧ m1 < 1000000000000000 := by
    by_cases z : m1 = 0
    · unfold pRight at h1; rw [if_pos z] at h1; simp at h1; omega
    · have := pRight_of h1 z; omega
  have k2 : -1000 ≤ e2 ∧ e2 ≤ 40 ∧ -40 ≤ e2 ∧ -1000000000000000 < m2 ∧ m2 < 1000000000000000 := by
    by_cases z : m2 = 0
    · unfold pRight at h2; rw [if_pos z] at h2; simp at h2; omega
    · have := pRight_of h2 z; omega
  have hmin : -40 ≤ minA e1 e2 ∧ minA e1 e2 ≤ 40 := by unfold minA; split <;> omega
  have CRa := Lib.hid (fun W => rRight_any m1 e1 W (by omega) (by omega))
  have CRb := Lib.hid (fun W => rRight_any m2 e2 W (by omega) (by omega))
  rw [h1] at CRa
  rw [h2] at CRb
  have hl1 : (dl m1.natAbs).length ≤ 20 := dl_len_le _ (by omega)
  have hl2 : (dl m2.natAbs).length ≤ 20 := dl_len_le _ (by omega)
  obtain ⟨n1, hn1⟩ : ∃ n1, (dl m1.natAbs).length = n1 := ⟨_, rfl⟩
  obtain ⟨n2, hn2⟩ : ∃ n2, (dl m2.natAbs).length = n2 := ⟨_, rfl⟩
  have CA := Lib.hid (fun W => of_valA m1 e1 W n1 hn1 (by omega) (by omega))
  have CB := Lib.hid (fun W => of_valA m2 e2 W n2 hn2 (by omega) (by omega))
  have CP := Lib.hid (fun W (A B : Option Addr) ca cb hL hM => plus_add m1 e1 m2 e2 A B ca cb n1 n2 W hn1 hn2 hL hM (by omega) (by omega) (by omega) (by omega) (by omega) (by omega))
  have CN := Lib.hid (fun (C : Option Addr) c n D W a b d e => near_add (gAdd m1 e1 m2 e2).1 (gAdd m1 e1 m2 e2).2 (minA e1 e2) C c n D W a b d e hv (by omega) (by omega))
  rw [ho] at CN
  unfold numOut at CN
  dsimp only at CN
  generalize decide (m1 < 0) = s1 at CA CP
  generalize decide (m2 < 0) = s2 at CB CP
  generalize (gAdd m1 e1 m2 e2).1 = G at *
  generalize (gAdd m1 e1 m2 e2).2 = V at *
  generalize minA e1 e2 = E at *
  generalize dl m1.natAbs = L1 at *
  generalize dl m2.natAbs = L2 at *
  obtain ⟨W3, hW3⟩ : ∃ W3, W3 = ((w.alloc (.cells #[.int .i64 m1, .int .i64 e1] 33)).alloc (.cells #[.int .i64 m2, .int .i64 e2] 33)).alloc (.cells #[.int .i64 0, .int .i64 0] 33) := ⟨_, rfl⟩
  have HK0 : Hid (AddK w m1 e1 m2 e2 w.heap.size W3) := Lib.hid (by
    rw [hW3]
    refine ⟨((Lies.new w _ _).alloc _).alloc _, ?_, by simp, (((Below.refl _ w).alloc (Nat.le_refl _) _).alloc (by simp) _).alloc (by simp; omega) _⟩
    have h := Lies.new (w.alloc (.cells #[.int .i64 m1, .int .i64 e1] 33)) 33 #[.int .i64 m2, .int .i64 e2]
    rw [World.size_alloc] at h
    exact h.alloc _)
  have HL0 : Hid (Lies W3 (w.heap.size + 2) 33 #[.int .i64 0, .int .i64 0]) := Lib.hid (by
    rw [hW3]
    have h := Lies.new ((w.alloc (.cells #[.int .i64 m1, .int .i64 e1] 33)).alloc (.cells #[.int .i64 m2, .int .i64 e2] 33)) 33 #[.int .i64 0, .int .i64 0]
    rw [World.size_alloc, World.size_alloc] at h
    exact h)
  have HW := Lib.hid hW3
  clear hW3 h1 h2 hn1 hn2 hl1 hl2 k1 k2 hmin ho hv
  unfold numV at CRa CRb CA CB CN ⊢
  go_enter Tryz.func16, Tryz.ntmps16
  go_upto_region 1 with fail
  rw [← HW.out]
  generalize hqe : w.heap.size = q at *
  have HQ := Lib.hid hqe
  clear hqe HW
  have y0 := HK0.out.a.cell 0
  have y1 := HK0.out.a.cell 1
  have z0 := HK0.out.b.cell 0
  have z1 := HK0.out.b.cell 1
  simp only [List.getElem?_toArray, List.getElem?_cons_zero, List.getElem?_cons_succ] at y0 y1 z0 z1
  go_wp2_with fail
  refine (CRa.out _).mono ?_
  rintro x w4 ⟨rfl, hb⟩
  have HK4 := Lib.hid (HK0.out.next hb)
  have HL4 := Lib.hid (HL0.out.next hb)
  clear y0 y1 z0 z1 hb HK0 HL0 CRa
  have z0 := HK4.out.b.cell 0
  have z1 := HK4.out.b.cell 1
  simp only [List.getElem?_toArray, List.getElem?_cons_zero, List.getElem?_cons_succ] at z0 z1
  go_wp2_with fail
  refine (CRb.out _).mono ?_
  rintro x w5 ⟨rfl, hb⟩
  have HK5 := Lib.hid (HK4.out.next hb)
  have HL5 := Lib.hid (HL4.out.next hb)
  clear z0 z1 hb HK4 HL4 CRb
  go_upto_region 3 with fail
  obtain ⟨TT, hTT⟩ : ∃ TT : List (Nat × Nat × (Value → World → Prop)), TT = [(0, 15, Is (.agg #[.int .i64 m1, .int .i64 e1])), (1, 16, POf (q + 2) s1 n1 e1 L1), (2, 17, Is (.agg #[.int .i64 m2, .int .i64 e2])), (3, 18, POf (q + 2) s2 n2 e2 L2), (4, 19, PPl (q + 2) G E V), (5, 20, Is (.tuple #[.agg #[.int .i64 mo, .int .i64 eo], .bool true])), (6, 21, Is (.agg #[.int .i64 mo, .int .i64 eo])), (7, 22, Is (.bool true)), (9, 5, Is (.bool true))] := ⟨_, rfl⟩
  have hoE : ∀ args W, (callFunc 26 args).run Tryz.prog W = .ok (.enter 26 args) W := enters_of Tryz.func26 (by kernel_rfl) rfl
  have hpE : ∀ args W, (callFunc 25 args).run Tryz.prog W = .ok (.enter 25 args) W := enters_of Tryz.func25 (by kernel_rfl) rfl
  have hnE : ∀ args W, (callFunc 24 args).run Tryz.prog W = .ok (.enter 24 args) W := enters_of Tryz.func24 (by kernel_rfl) rfl
  have HoE := Lib.hid hoE
  have HpE := Lib.hid hpE
  have HnE := Lib.hid hnE
  have HTT := Lib.hid hTT
  clear hoE hpE hnE hTT
  go_cut [5] (fun vB wy => vB = .bool true ∧ Hid (Lies wy (q + 2) 33 #[.int .i64 mo, .int .i64 eo]) ∧ Hid (Below q w wy))
  case first =>
    refine wp_region_invB (by kernel_rfl) (by kernel_rfl) (fun a0 => 23 ≤ a0.tmps.size ∧ a0.eval (.tmp 2) = .pointer (some ⟨q, 0, none⟩) ∧ a0.eval (.tmp 3) = .pointer (some ⟨q + 1, 0, none⟩) ∧ a0.eval (.tmp 4) = .pointer (some ⟨q + 2, 0, none⟩)) (GS [15, 16, 17, 18, 19, 20, 21, 22, 5] TT (AddK w m1 e1 m2 e2 q) (q + 2) 8 33 #[.int .i64 0, .int .i64 0] (fun c => c = #[.int .i64 mo, .int .i64 eo])) ⟨by simp, rfl, rfl, rfl⟩ (GS.start _ _ (HK5.out.next (Below.refl _ _).drew) (HL5.out.next (Below.refl _ _).drew)) ?_ ?_
    · rintro a0 ⟨hs, h2q, h3q, h4q⟩ listed a1 w1 j o hsz hI hun ho hdeps
      have hTT := HTT.out
      subst hTT
      have hk : GSOk [15, 16, 17, 18, 19, 20, 21, 22, 5] [(0, 15, Is (.agg #[.int .i64 m1, .int .i64 e1])), (1, 16, POf (q + 2) s1 n1 e1 L1), (2, 17, Is (.agg #[.int .i64 m2, .int .i64 e2])), (3, 18, POf (q + 2) s2 n2 e2 L2), (4, 19, PPl (q + 2) G E V), (5, 20, Is (.tuple #[.agg #[.int .i64 mo, .int .i64 eo], .bool true])), (6, 21, Is (.agg #[.int .i64 mo, .int .i64 eo])), (7, 22, Is (.bool true)), (9, 5, Is (.bool true))] (AddK w m1 e1 m2 e2 q) (q + 2) 8 23 := ⟨rfl, by
        intro e he
        simp only [List.mem_cons, List.not_mem_nil, or_false] at he
        rcases he with rfl | rfl | rfl | rfl | rfl | rfl | rfl | rfl | rfl
        · exact lastB_is _ _
        · exact lastB_of _ _ _ _ _
        · exact lastB_is _ _
        · exact lastB_of _ _ _ _ _
        · exact lastB_pl _ _ _ _
        · exact lastB_is _ _
        · exact lastB_is _ _
        · exact lastB_is _ _
        · exact lastB_is _ _
        , ⟨fun _ _ _ h hb => h.next hb, fun _ _ i u h => h.put i u⟩⟩
      have hj := Up.of_false hun
      have hj12 : j < 10 := by rw [hsz] at hj; exact hj
      have k2e : a1.eval (.tmp 2) = .pointer (some ⟨q, 0, none⟩) := (hI.off.eval (by decide)).trans h2q
      have k3e : a1.eval (.tmp 3) = .pointer (some ⟨q + 1, 0, none⟩) := (hI.off.eval (by decide)).trans h3q
      have k4e : a1.eval (.tmp 4) = .pointer (some ⟨q + 2, 0, none⟩) := (hI.off.eval (by decide)).trans h4q
      have hbig : q + 2 + 1 ≤ w1.heap.size := hI.k.big
      have m0 := hI.k.a.cell 0
      have m1' := hI.k.a.cell 1
      have m2' := hI.k.b.cell 0
      have m3' := hI.k.b.cell 1
      simp only [List.getElem?_toArray, List.getElem?_cons_zero, List.getElem?_cons_succ] at m0 m1' m2' m3'
      rcases (by omega : j = 0 ∨ j = 1 ∨ j = 2 ∨ j = 3 ∨ j = 4 ∨ j = 5 ∨ j = 6 ∨ j = 7 ∨ j = 8 ∨ j = 9) with rfl | rfl | rfl | rfl | rfl | rfl | rfl | rfl | rfl | rfl
      · have ho2 := ho
        simp only [List.getElem?_toArray, List.getElem?_cons_zero, Option.some.injEq] at ho2
        subst ho2
        exact gs_val hk hI hs (.head _) (.agg #[.int .i64 m1, .int .i64 e1]) _ hun ho rfl rfl (by simp [execOp, go_sem, tget k2e, m0, m1']) (Below.refl _ _) rfl
      · have ho2 := ho
        simp only [List.getElem?_toArray, List.getElem?_cons_zero, List.getElem?_cons_succ, Option.some.injEq] at ho2
        subst ho2
        have d0 : Up listed 0 := hdeps { on := 0, ground := .data } (by simp) rfl
        have p0 : a1.eval (.tmp 15) = (.agg #[.int .i64 m1, .int .i64 e1]) := hI.pt (0, 15, Is (.agg #[.int .i64 m1, .int .i64 e1])) (.head _) d0
        refine gs_call hk hI hs (.tail _ (.head _)) 26 #[(.agg #[.int .i64 m1, .int .i64 e1])] hun ho rfl rfl (by simp [go_sem, tget p0, HoE.out]) ?_
        refine (CA.out w1).mono ?_
        rintro e wx ⟨A, c, rfl, hA, hb⟩
        exact ⟨_, rfl, hb, A, c, rfl, isl_le hA hbig⟩
      · have ho2 := ho
        simp only [List.getElem?_toArray, List.getElem?_cons_zero, List.getElem?_cons_succ, Option.some.injEq] at ho2
        subst ho2
        exact gs_val hk hI hs (.tail _ (.tail _ (.head _))) (.agg #[.int .i64 m2, .int .i64 e2]) _ hun ho rfl rfl (by simp [execOp, go_sem, tget k3e, m2', m3']) (Below.refl _ _) rfl
      · have ho2 := ho
        simp only [List.getElem?_toArray, List.getElem?_cons_zero, List.getElem?_cons_succ, Option.some.injEq] at ho2
        subst ho2
        have d2 : Up listed 2 := hdeps { on := 2, ground := .data } (by simp) rfl
        have p2 : a1.eval (.tmp 17) = (.agg #[.int .i64 m2, .int .i64 e2]) := hI.pt (2, 17, Is (.agg #[.int .i64 m2, .int .i64 e2])) (.tail _ (.tail _ (.head _))) d2
        refine gs_call hk hI hs (.tail _ (.tail _ (.tail _ (.head _)))) 26 #[(.agg #[.int .i64 m2, .int .i64 e2])] hun ho rfl rfl (by simp [go_sem, tget p2, HoE.out]) ?_
        refine (CB.out w1).mono ?_
        rintro e wx ⟨A, c, rfl, hA, hb⟩
        exact ⟨_, rfl, hb, A, c, rfl, isl_le hA hbig⟩
      · have ho2 := ho
        simp only [List.getElem?_toArray, List.getElem?_cons_zero, List.getElem?_cons_succ, Option.some.injEq] at ho2
        subst ho2
        have d1 : Up listed 1 := hdeps { on := 1, ground := .data } (by simp) rfl
        have d3 : Up listed 3 := hdeps { on := 3, ground := .data } (by simp) rfl
        obtain ⟨A1, c1, p1, hA⟩ := hI.pt (1, 16, POf (q + 2) s1 n1 e1 L1) (.tail _ (.head _)) d1
        obtain ⟨A2, c2, p3, hB⟩ := hI.pt (3, 18, POf (q + 2) s2 n2 e2 L2) (.tail _ (.tail _ (.tail _ (.head _)))) d3
        refine gs_call hk hI hs (.tail _ (.tail _ (.tail _ (.tail _ (.head _))))) 25 #[.agg #[.bool s1, .slice A1 n1 c1, .int .i64 e1], .agg #[.bool s2, .slice A2 n2 c2, .int .i64 e2]] hun ho rfl rfl (by simp [go_sem, tget p1, tget p3, HpE.out]) ?_
        refine (CP.out w1 A1 A2 c1 c2 hA.zero hB.zero).mono ?_
        rintro e wx ⟨A, c, n, D, rfl, hn, hA, hd, hV, hb⟩
        exact ⟨_, rfl, hb, A, c, n, D, rfl, hn, isl_le hA hbig, hd, hV⟩
      · have ho2 := ho
        simp only [List.getElem?_toArray, List.getElem?_cons_zero, List.getElem?_cons_succ, Option.some.injEq] at ho2
        subst ho2
        have d4 : Up listed 4 := hdeps { on := 4, ground := .data } (by simp) rfl
        obtain ⟨A, c, n, D, p4, hn, hA, hd, hV⟩ := hI.pt (4, 19, PPl (q + 2) G E V) (.tail _ (.tail _ (.tail _ (.tail _ (.head _))))) d4
        refine gs_call hk hI hs (.tail _ (.tail _ (.tail _ (.tail _ (.tail _ (.head _)))))) 24 #[.agg #[.bool G, .slice A n c, .int .i64 E], .bool false] hun ho rfl rfl (by simp [go_sem, tget p4, HnE.out]) ?_
        refine (CN.out A c n D w1 hn hA.zero hd hV).mono ?_
        rintro e wx ⟨rfl, hb⟩
        exact ⟨_, rfl, hb, rfl⟩
      · have ho2 := ho
        simp only [List.getElem?_toArray, List.getElem?_cons_zero, List.getElem?_cons_succ, Option.some.injEq] at ho2
        subst ho2
        have d5 : Up listed 5 := hdeps { on := 5, ground := .data } (by simp) rfl
        have p5 : a1.eval (.tmp 20) = (.tuple #[(.agg #[.int .i64 mo, .int .i64 eo]), .bool true]) := hI.pt (5, 20, Is (.tuple #[.agg #[.int .i64 mo, .int .i64 eo], .bool true])) (.tail _ (.tail _ (.tail _ (.tail _ (.tail _ (.head _)))))) d5
        exact gs_val hk hI hs (.tail _ (.tail _ (.tail _ (.tail _ (.tail _ (.tail _ (.head _))))))) (.agg #[.int .i64 mo, .int .i64 eo]) _ hun ho rfl rfl (by simp [execOp, go_sem, tget p5]) (Below.refl _ _) rfl
      · have ho2 := ho
        simp only [List.getElem?_toArray, List.getElem?_cons_zero, List.getElem?_cons_succ, Option.some.injEq] at ho2
        subst ho2
        have d5 : Up listed 5 := hdeps { on := 5, ground := .data } (by simp) rfl
        have p5 : a1.eval (.tmp 20) = (.tuple #[(.agg #[.int .i64 mo, .int .i64 eo]), .bool true]) := hI.pt (5, 20, Is (.tuple #[.agg #[.int .i64 mo, .int .i64 eo], .bool true])) (.tail _ (.tail _ (.tail _ (.tail _ (.tail _ (.head _)))))) d5
        exact gs_val hk hI hs (.tail _ (.tail _ (.tail _ (.tail _ (.tail _ (.tail _ (.tail _ (.head _)))))))) (.bool true) _ hun ho rfl rfl (by simp [execOp, go_sem, tget p5]) (Below.refl _ _) rfl
      · have ho2 := ho
        simp only [List.getElem?_toArray, List.getElem?_cons_zero, List.getElem?_cons_succ, Option.some.injEq] at ho2
        subst ho2
        have d6 : Up listed 6 := hdeps { on := 6, ground := .data } (by simp) rfl
        have p6 : a1.eval (.tmp 21) = (.agg #[.int .i64 mo, .int .i64 eo]) := hI.pt (6, 21, Is (.agg #[.int .i64 mo, .int .i64 eo])) (.tail _ (.tail _ (.tail _ (.tail _ (.tail _ (.tail _ (.head _))))))) d6
        exact gs_store hk hI hun ho rfl rfl [.int .i64 mo, .int .i64 eo] rfl rfl (fun g2 => by
          have c0 := g2.cell 0
          have k0 := g2.frozen 0
          have c1 := g2.cell 1
          have k1 := g2.frozen 1
          simp at c0 c1
          simp [execOp, go_sem, tget p6, tget k4e, putL, c0, k0, c1, k1])
      · have ho2 := ho
        simp only [List.getElem?_toArray, List.getElem?_cons_zero, List.getElem?_cons_succ, Option.some.injEq] at ho2
        subst ho2
        have d7 : Up listed 7 := hdeps { on := 7, ground := .data } (by simp) rfl
        have p7 : a1.eval (.tmp 22) = .bool true := hI.pt (7, 22, Is (.bool true)) (.tail _ (.tail _ (.tail _ (.tail _ (.tail _ (.tail _ (.tail _ (.head _)))))))) d7
        exact gs_val hk hI hs (.tail _ (.tail _ (.tail _ (.tail _ (.tail _ (.tail _ (.tail _ (.tail _ (.head _))))))))) (.bool true) _ hun ho rfl rfl (by simp [execOp, go_sem, tget p7]) (Below.refl _ _) rfl
    · intro listed a1 w1 hI hup
      have hTT := HTT.out
      subst hTT
      obtain ⟨c, rfl, hl2⟩ := hI.b2 (hup 8 (by decide))
      have hasg : a1.eval (.tmp 5) = .bool true := hI.pt (9, 5, Is (.bool true)) (.tail _ (.tail _ (.tail _ (.tail _ (.tail _ (.tail _ (.tail _ (.tail _ (.head _))))))))) (hup 9 (by decide))
      have hbel := hI.k.bel
      obtain ⟨ff, rfl, hf⟩ := hI.off.forms
      have fB : ff 5 = .bool true := (hf 5).trans hasg
      clear hI
      simp only [List.foldl, Act.put, List.setIfInBounds_toArray, List.set, fB]
      simp only [Exit.then]
      go_step
      go_meet
      exact ⟨rfl, Lib.hid hl2, Lib.hid hbel⟩
  case rest =>
    obtain ⟨rfl, HL6, HB6⟩ := hcut
    have x0 := HL6.out.cell 0
    have x1 := HL6.out.cell 1
    simp only [List.getElem?_toArray, List.getElem?_cons_zero, List.getElem?_cons_succ] at x0 x1
    clear HTT HoE HpE HnE CA CB CP CN HK5 HL5
    go_wp2_with fail
    refine bodyPost_ret (v := .tuple #[.agg #[.int .i64 mo, .int .i64 eo], .bool true]) (by simp [results, Tryz.results16, go_sem, x0, x1]) rfl ?_
    refine ⟨rfl, ?_⟩
    rw [HQ.out]
    exact HB6.out
set_option maxRecDepth 100000 in
set_option maxHeartbeats 6400000 in
theorem rint_any (m e : Int) (n : Nat) (w : World) (hr : pRight m e = true) (he0 : 0 ≤ e) (he : e ≤ 2) (hm0 : 0 ≤ m) (hm : m ≤ 121) (hn : m * 10 ^ e.toNat = (n : Int)) :
    Calls Tryz.prog 17 #[numV m e] w fun x w' => x = .returned (.tuple #[.int .i64 (n : Int), .bool true]) ∧ Below w.heap.size w w' := by
  have CR := Lib.hid (fun W => rRight_any m e W (by omega) (by omega))
  rw [hr] at CR
  have HN := Lib.hid hn
  have HMon : Hid (∀ k : Nat, k ≤ 2 → 0 ≤ m * 10 ^ k ∧ m * 10 ^ k ≤ 12100) := Lib.hid (fun k hk => by
    rcases (by omega : k = 0 ∨ k = 1 ∨ k = 2) with rfl | rfl | rfl <;> omega)
  have HB1 : Hid (Below w.heap.size w (w.alloc (.cells #[.int .i64 m, .int .i64 e] 33))) := Lib.hid ((Below.refl _ w).alloc (Nat.le_refl _) _)
  have HL1 : Hid (Lies (w.alloc (.cells #[.int .i64 m, .int .i64 e] 33)) w.heap.size 33 #[.int .i64 m, .int .i64 e]) := Lib.hid (Lies.new w _ _)
  clear hr hn
  unfold numV at CR ⊢
  go_enter Tryz.func17, Tryz.ntmps17
  go_upto_region 1 with fail
  generalize w.alloc (.cells #[.int .i64 m, .int .i64 e] 33) = W1 at *
  generalize hqe : w.heap.size = q at *
  have HQ := Lib.hid hqe
  clear hqe
  have y0 := HL1.out.cell 0
  have y1 := HL1.out.cell 1
  simp only [List.getElem?_toArray, List.getElem?_cons_zero, List.getElem?_cons_succ] at y0 y1
  go_wp2_with fail
  refine (CR.out _).mono ?_
  rintro x w2 ⟨rfl, hb⟩
  have HB2 := Lib.hid (HB1.out.trans (hb.mono (Nat.le_of_lt HL1.out.lt)))
  have HL2 := Lib.hid (HL1.out.next hb)
  clear hb HB1 HL1 CR y0 y1
  have y0 := HL2.out.cell 0
  have y1 := HL2.out.cell 1
  simp only [List.getElem?_toArray, List.getElem?_cons_zero, List.getElem?_cons_succ] at y0 y1
  go_wp2_with fail
  go_loopw [4, 5] (fun v4 v5 wx => ∃ (k : Nat) (z : Int), v5 = .int .i64 (k : Int) ∧ v4 = .int .i64 z ∧ (k : Int) ≤ e ∧ Hid (z = m * 10 ^ k) ∧ Hid (wx = w2)) (fun _ v5 _ => (e - intOf v5).toNat)
  case atStart => exact ⟨0, m, rfl, rfl, he0, Lib.hid (by simp), Lib.hid rfl⟩
  case round =>
    obtain ⟨k, z, rfl, rfl, hke, hz, hw⟩ := hrel
    obtain rfl : wr = w2 := hw.out
    clear hw
    have hz0 : 0 ≤ z := by rw [hz.out]; exact (HMon.out k (by omega)).1
    have hz1 : z ≤ 12100 := by rw [hz.out]; exact (HMon.out k (by omega)).2
    by_cases hlt : (k : Int) < e
    · go_wp2_with fail
      go_roundw
      case rel => exact ⟨k + 1, 10 * z, by go_num, rfl, by omega, Lib.hid (by rw [hz.out, Int.pow_succ, Int.mul_comm 10, Int.mul_assoc]), by first | exact Lib.hid rfl | exact Lib.hid trivial⟩
      case measure => simp [intOf]; omega
    · have hke2 : e.toNat = k := by omega
      have hzn : z = (n : Int) := by rw [hz.out, ← HN.out, hke2]
      subst hzn
      clear hz hke2
      go_wp2_with fail
      refine bodyPost_ret (v := .tuple #[.int .i64 (n : Int), .bool true]) (by simp [results, Tryz.results17, go_sem]) rfl ?_
      refine ⟨rfl, ?_⟩
      rw [HQ.out]
      exact HB2.out
end Go.Proofs.YtpdaloohgfnbhaaGreatDoor
