/-
  ref01: digits, Of, Right (merged: App1, RefA3).
-/
import Derived.Test.YtpdaloohgfnbhaaGreatDoorKit
import Derived.Maps.AppendAt
import Derived.Deep.AppendLies
import Derived.Test.YtpdaloohgfnbhaaGreatDoorPl1
import Derived.Test.YtpdaloohgfnbhaaGreatDoorNum4
import Derived.Test.YtpdaloohgfnbhaaGreatDoorNum1
namespace Go.Proofs.YtpdaloohgfnbhaaGreatDoor
open Go.RowKit

/-- a slice's address and the cells behind it -/
def Src (w : World) (A : Option Addr) (xs : List Value) : Prop := (A = none → xs = []) ∧ ∀ ad, A = some ad → ∀ j u, xs[j]? = some u → w.cell? (ad.add j) = some u
theorem Src.nil (w : World) (A : Option Addr) : Src w A [] := ⟨fun _ => rfl, fun _ _ j u h => by simp at h⟩
theorem Src.own {w : World} {base : Nat} {e : TypeId} {A : Option Addr} {n c : Nat} {xs : List Value} (h : w.ownsRow base e 1 (.slice A n c) n xs) : Src w A xs := by
  rcases h.2 with ⟨h1, h0⟩ | ⟨g, cap, cur, h1, _⟩
  · injection h1 with h1 _ _
    subst h1; subst h0
    have : xs = [] := List.eq_nil_of_length_eq_zero (by simpa using h.1)
    subst this
    exact Src.nil _ _
  · injection h1 with h1 _ _
    subst h1
    exact ⟨fun h => (by cases h), fun ad e => by injection e with e; subst e; exact h.cells rfl⟩
theorem Src.keep {w w' : World} {A : Option Addr} {xs : List Value} {B : Nat} (h : Src w A xs) (hB : ∀ ad, A = some ad → ad.block < B) (hb : Below B w w') : Src w' A xs :=
  ⟨h.1, fun ad e j u hu => by
    have hk : (ad.add j).block = ad.block := by unfold Addr.add; split <;> rfl
    rw [hb.cell (by rw [hk]; exact hB ad e)]
    exact h.2 ad e j u hu⟩
section
variable {P : Program} (w : World)
theorem run_append_src (base : Nat) (t ty e : TypeId) (i : TypeInfo) (z : Value) (bytes : Nat) (ht : P.underlying t = some (.slice e)) (hi : P.info? e = some i) (hz : i.zero = some z)
    (hsize : i.size = 1) (hby : i.bytes = bytes) (hzs : z.cells.size = 1)
    (v : Value) (n : Nat) (xs : List Value) (hown : w.ownsRow base e 1 v n xs) (A : Option Addr) (m c : Nat) (news : List Value) (hm : news.length = m) (hr : Src w A news) (h1 : ∀ u ∈ news, u.oneCell' = true)
    (h63 : n + m ≤ maxLen) (hbytes : (n + m) * bytes ≤ 140737488355328) (hbase : base ≤ w.heap.size) :
    ∃ v' w', (Builtin.append_ #[t, t] ty #[v, .slice A m c]).run P w = .ok v' w' ∧ w'.ownsRow base e 1 v' (n + m) (xs ++ news) ∧ w.grownBy w' v.ownBlock ∧ (v'.ownBlock = v.ownBlock ∨ v'.ownBlock = some w.heap.size) := by
  cases A with
  | none =>
    have hn := hr.1 rfl
    subst hn
    obtain rfl : m = 0 := by simpa using hm.symm
    refine ⟨v, w, ?_, by simpa using hown, World.grownBy.refl w _, .inl rfl⟩
    rcases hown.2 with ⟨rfl, rfl⟩ | ⟨g, cap, cur, rfl, _, _, hnc, _⟩
    · simp [Builtin.append_, run_underlying ht, sizeOf, typeInfo, hi, Builtin.lenOf, Builtin.firstCells]
    · simp [Builtin.append_, run_underlying ht, sizeOf, typeInfo, hi, Builtin.lenOf, Builtin.firstCells, hnc, storeCells]
  | some ad =>
    obtain ⟨v', w', hrun, h2, h3, _, h5⟩ := run_append_own_at (P := P) w base t ty e i z 1 bytes ht hi hz hsize hby hzs (by decide) v n xs hown ad m c news (by rw [Nat.mul_one]; exact hm) (hr.2 ad rfl) h1 h63 hbytes hbase
    exact ⟨v', w', hrun, h2, h3, h5⟩
theorem wpList_append_src {ops : Array Oper} {rest : List Oper} {o : Oper} {a : Act} {Q : Exit → Act → World → Prop} (hgd : o.guard = none) (s x : Operand) (t : TypeId)
    (ho : o.op = .call { callee := .builtin .append, args := #[s, x], argTypes := #[t, t] })
    (base : Nat) (e : TypeId) (i : TypeInfo) (z : Value) (bytes : Nat) (ht : P.underlying t = some (.slice e)) (hi : P.info? e = some i) (hz : i.zero = some z)
    (hsize : i.size = 1) (hby : i.bytes = bytes) (hzs : z.cells.size = 1)
    (v : Value) (n : Nat) (xs : List Value) (hs : a.eval s = v) (hown : w.ownsRow base e 1 v n xs)
    (A : Option Addr) (m c : Nat) (news : List Value) (hx : a.eval x = .slice A m c) (hm : news.length = m) (hr : Src w A news) (h1 : ∀ u ∈ news, u.oneCell' = true)
    (h63 : n + m ≤ maxLen) (hbytes : (n + m) * bytes ≤ 140737488355328) (hbase : base ≤ w.heap.size)
    (h : ∀ v' w', w'.ownsRow base e 1 v' (n + m) (xs ++ news) → w.grownBy w' v.ownBlock → (v'.ownBlock = v.ownBlock ∨ v'.ownBlock = some w.heap.size) → wpList P ops Q rest (a.put o.dst v') w') : wpList P ops Q (o :: rest) a w :=
  wpList_plain hgd fun _ hK => by
    obtain ⟨v', w', hrun, h2, h3, h4⟩ := run_append_src (P := P) w base t o.type e i z bytes ht hi hz hsize hby hzs v n xs hown A m c news hm hr h1 h63 hbytes hbase
    unfold Oper.wp execOp
    simp only [ho, resolve, invoke, builtin, Sem.run_bind, Sem.run_pure, Result.andThen_ok, List.map_toArray, List.map_cons, List.map_nil, hs, hx, hrun]
    exact hK _ _ (h v' w' h2 h3 h4)
end
def intV (d : Nat) : Value := .int .i64 (d : Int)
theorem infoI64 : (Tryz.prog.info? 3).map (fun i => (i.zero, i.size, i.bytes)) = some (some (.int .i64 0), 1, 8) := by kernel_rfl
theorem ints_one (L : List Nat) : ∀ u ∈ L.map intV, u.oneCell' = true := by
  intro u hu
  rw [List.mem_map] at hu
  obtain ⟨d, _, rfl⟩ := hu
  rfl
/-- a slice of the call's own that holds digits -/
def Own (w : World) (base : Nat) (v : Value) (L : List Nat) : Prop := w.ownsRow base 3 1 v L.length (L.map intV)
theorem Own.slice {w : World} {base : Nat} {v : Value} {L : List Nat} (h : Own w base v L) : ∃ A c, v = .slice A L.length c ∧ Src w A (L.map intV) ∧ (∀ ad, A = some ad → base ≤ ad.block ∧ ad.block < w.heap.size) := by
  rcases h.2 with ⟨rfl, h0⟩ | ⟨g, cap, cur, rfl, hg, hh, _⟩
  · refine ⟨none, 0, by rw [h0], ?_, fun ad e => by cases e⟩
    have : L = [] := List.eq_nil_of_length_eq_zero h0
    subst this
    exact Src.nil _ _
  · exact ⟨some ⟨g, 0, none⟩, cap, rfl, Src.own h, fun ad e => by injection e with e; subst e; exact ⟨hg, (Array.getElem?_eq_some_iff.1 hh).1⟩⟩
theorem fresh_own (w : World) (u : Value) (base : Nat) (h : base ≤ w.heap.size) (n : Nat) (hn : n = w.heap.size) : (w.alloc (.cells #[u] 3)).ownsRow base 3 1 (.slice (some ⟨n, 0, none⟩) 1 1) 1 [u] := by
  subst hn
  refine ⟨rfl, .inr ⟨w.heap.size, 1, #[u], rfl, h, Lies.new _ _ _, Nat.le_refl _, by decide, rfl, rfl⟩⟩
set_option maxRecDepth 100000 in
set_option maxHeartbeats 1600000 in
theorem digits_any (n : Int) (w : World) (h1 : -9223372036854775808 ≤ n) (h2 : n ≤ 9223372036854775807) :
    Calls Tryz.prog 56 #[.int .i64 n] w fun e w' => ∃ v, e = .returned v ∧ Own w' w.heap.size v (dl n.natAbs) ∧ Below w.heap.size w w' := by
  obtain ⟨i0, hi, hz0, hz1, hz2⟩ := info_parts infoI64
  have hlen : (dl n.natAbs).length ≤ 20 := dl_len_le _ (by omega)
  have HLen := Lib.hid hlen
  clear hlen
  generalize hD : dl n.natAbs = D at *
  have HD := Lib.hid hD
  clear hD
  go_enter Tryz.func56, Tryz.ntmps56
  go_wp2_with fail
  go_loopw [0, 3] (fun x v wr => ∃ (m : Int) (L : List Nat), x = .int .i64 m ∧ -9223372036854775808 ≤ m ∧ m ≤ 9223372036854775807 ∧ Hid (Own wr w.heap.size v L) ∧ Hid (dl m.natAbs ++ L = D) ∧ Hid (Below w.heap.size w wr)) (fun x _ _ => (intOf x).natAbs)
  case atStart => exact ⟨n, [], rfl, h1, h2, Lib.hid ⟨rfl, .inl ⟨rfl, rfl⟩⟩, Lib.hid (by rw [List.append_nil]; exact HD.out), Lib.hid (Below.refl _ _)⟩
  case round =>
    obtain ⟨m, L, rfl, hm1, hm2, hown, hq, hbel⟩ := hrel
    by_cases h0 : m = 0
    · subst h0
      have hL : Hid (L = D) := Lib.hid (by have := hq.out; simpa [dl_zero] using this)
      go_wp2_with fail
      go_ret
      exact ⟨_, rfl, by rw [← hL.out]; exact hown.out, hbel.out⟩
    · have b0 : (m != 0) = true := by rw [bne_iff_ne]; exact h0
      obtain ⟨A, c, rfl, hsrc, hA⟩ := hown.out.slice
      have HSrc := Lib.hid hsrc
      have HA := Lib.hid hA
      clear hsrc hA h0
      have hLl : L.length ≤ 20 := by
        have h3 := HLen.out
        rw [← hq.out, List.length_append] at h3
        omega
      have hn0 : m ≠ 0 := by simpa using b0
      by_cases hpos : 0 ≤ m
      · go_wp2_with (at_builtin; refine wpList_append_src _ rfl (.tmp 14) (.tmp 15) 57 rfl w.heap.size 3 i0 (.int .i64 0) 8 Tryz.underlying57 hi hz0 hz1 hz2 rfl (.slice (some ⟨wr.heap.size, 0, none⟩) 1 1) 1 [.int .i64 (m % 10)] rfl (fresh_own _ _ _ hbel.out.size _ rfl) A L.length c (L.map intV) rfl (by simp) ?src (ints_one L) ?c3 ?c4 ?c5 ?_)
        case src => exact HSrc.out.keep (B := wr.heap.size) (fun ad e => (HA.out ad e).2) ((Below.refl _ _).alloc (Nat.le_refl _) _)
        case c3 => unfold maxLen; omega
        case c4 => omega
        case c5 => have := hbel.out.size; simp; omega
        intro v' w1 hown1 hg1 _
        have hO : Hid (Own w1 w.heap.size v' (m.natAbs % 10 :: L)) := Lib.hid (by
          have e : intV (m.natAbs % 10) = .int .i64 (m % 10) := by unfold intV; congr 1; omega
          unfold Own
          rw [List.map_cons, e, List.length_cons, Nat.add_comm]
          exact hown1)
        have hb1 : Hid (Below w.heap.size w w1) := Lib.hid ((hbel.out.alloc hbel.out.size _).grown hg1 (by have := hbel.out.size; simp; omega) (fun k h => by simp [Value.ownBlock] at h; have := hbel.out.size; omega))
        clear hown1 hg1
        go_wp2_with fail
        go_roundw
        case rel => exact ⟨m / 10, m.natAbs % 10 :: L, rfl, by omega, by omega, hO, Lib.hid (by rw [show (m / 10).natAbs = m.natAbs / 10 by omega, ← hq.out, dl_step m.natAbs (by omega), List.append_assoc]; rfl), hb1⟩
        case measure => simp [intOf]; omega
      · obtain ⟨q, d, hmq, hd10⟩ : ∃ q d : Nat, m = -(10 * (q : Int) + d) ∧ d < 10 := ⟨m.natAbs / 10, m.natAbs % 10, by omega, by omega⟩
        have HM := Lib.hid hmq
        have htd : m.tdiv 10 = -(q : Int) := by
          rw [hmq, Int.neg_tdiv, Int.tdiv_eq_ediv_of_nonneg (by omega)]
          omega
        have htm : m.tmod 10 = -(d : Int) := by
          rw [hmq, Int.neg_tmod, Int.tmod_eq_emod_of_nonneg (by omega)]
          omega
        have hqb : (q : Int) ≤ 922337203685477580 := by omega
        clear hmq
        by_cases hd0 : d = 0
        · subst hd0
          simp only [Int.natCast_zero, Int.neg_zero] at htm
          go_wp2_with (at_builtin; refine wpList_append_src _ rfl (.tmp 14) (.tmp 15) 57 rfl w.heap.size 3 i0 (.int .i64 0) 8 Tryz.underlying57 hi hz0 hz1 hz2 rfl (.slice (some ⟨wr.heap.size, 0, none⟩) 1 1) 1 [.int .i64 (0)] rfl (fresh_own _ _ _ hbel.out.size _ rfl) A L.length c (L.map intV) rfl (by simp) ?src (ints_one L) ?c3 ?c4 ?c5 ?_)
          case src => exact HSrc.out.keep (B := wr.heap.size) (fun ad e => (HA.out ad e).2) ((Below.refl _ _).alloc (Nat.le_refl _) _)
          case c3 => unfold maxLen; omega
          case c4 => omega
          case c5 => have := hbel.out.size; simp; omega
          intro v' w1 hown1 hg1 _
          have hO : Hid (Own w1 w.heap.size v' (m.natAbs % 10 :: L)) := Lib.hid (by
            have e : intV (m.natAbs % 10) = .int .i64 (0) := by unfold intV; congr 1; have := HM.out; omega
            unfold Own
            rw [List.map_cons, e, List.length_cons, Nat.add_comm]
            exact hown1)
          have hb1 : Hid (Below w.heap.size w w1) := Lib.hid ((hbel.out.alloc hbel.out.size _).grown hg1 (by have := hbel.out.size; simp; omega) (fun k h => by simp [Value.ownBlock] at h; have := hbel.out.size; omega))
          clear hown1 hg1
          go_wp2_with fail
          go_roundw
          case rel => exact ⟨-(q : Int), m.natAbs % 10 :: L, rfl, by have := HM.out; omega, by have := HM.out; omega, hO, Lib.hid (by rw [show (-(q : Int)).natAbs = m.natAbs / 10 by have := HM.out; omega, ← hq.out, dl_step m.natAbs (by omega), List.append_assoc]; rfl), hb1⟩
          case measure => simp [intOf]; have := HM.out; omega
        · have hdp : 0 < (d : Int) := by omega
          go_wp2_with (at_builtin; refine wpList_append_src _ rfl (.tmp 14) (.tmp 15) 57 rfl w.heap.size 3 i0 (.int .i64 0) 8 Tryz.underlying57 hi hz0 hz1 hz2 rfl (.slice (some ⟨wr.heap.size, 0, none⟩) 1 1) 1 [.int .i64 ((d : Int))] rfl (fresh_own _ _ _ hbel.out.size _ rfl) A L.length c (L.map intV) rfl (by simp) ?src (ints_one L) ?c3 ?c4 ?c5 ?_)
          case src => exact HSrc.out.keep (B := wr.heap.size) (fun ad e => (HA.out ad e).2) ((Below.refl _ _).alloc (Nat.le_refl _) _)
          case c3 => unfold maxLen; omega
          case c4 => omega
          case c5 => have := hbel.out.size; simp; omega
          intro v' w1 hown1 hg1 _
          have hO : Hid (Own w1 w.heap.size v' (m.natAbs % 10 :: L)) := Lib.hid (by
            have e : intV (m.natAbs % 10) = .int .i64 ((d : Int)) := by unfold intV; congr 1; have := HM.out; omega
            unfold Own
            rw [List.map_cons, e, List.length_cons, Nat.add_comm]
            exact hown1)
          have hb1 : Hid (Below w.heap.size w w1) := Lib.hid ((hbel.out.alloc hbel.out.size _).grown hg1 (by have := hbel.out.size; simp; omega) (fun k h => by simp [Value.ownBlock] at h; have := hbel.out.size; omega))
          clear hown1 hg1
          go_wp2_with fail
          go_roundw
          case rel => exact ⟨-(q : Int), m.natAbs % 10 :: L, rfl, by have := HM.out; omega, by have := HM.out; omega, hO, Lib.hid (by rw [show (-(q : Int)).natAbs = m.natAbs / 10 by have := HM.out; omega, ← hq.out, dl_step m.natAbs (by omega), List.append_assoc]; rfl), hb1⟩
          case measure => simp [intOf]; have := HM.out; omega
/-- what Of has on its way: the number in its box, the result's block -/
def OfIn (w : World) (m e : Int) (w' : World) : Prop :=
  w.heap.size + 1 < w'.heap.size ∧ w'.cell? ⟨w.heap.size, 0, none⟩ = some (.int .i64 m) ∧ w'.cell? ⟨w.heap.size, 1, none⟩ = some (.int .i64 e) ∧
  w'.cell? ⟨w.heap.size + 1, 0, none⟩ = some (.bool false) ∧ w'.cell? ⟨w.heap.size + 1, 1, none⟩ = some (.slice none 0 0) ∧ w'.cell? ⟨w.heap.size + 1, 2, none⟩ = some (.int .i64 0) ∧
  w'.frozen? ⟨w.heap.size + 1, 0, none⟩ = false ∧ w'.frozen? ⟨w.heap.size + 1, 1, none⟩ = false ∧ w'.frozen? ⟨w.heap.size + 1, 2, none⟩ = false ∧ Below w.heap.size w w'
theorem OfIn.start (w : World) (m e : Int) : OfIn w m e ((w.alloc (.cells #[.int .i64 m, .int .i64 e] 33)).alloc (.cells #[.bool false, .slice none 0 0, .int .i64 0] 59)) :=
  ⟨by simp, by simp, by simp, by simp, by simp, by simp, by simp, by simp, by simp, ((Below.refl _ w).alloc (Nat.le_refl _) _).alloc (by simp) _⟩
theorem OfIn.next {w w' w'' : World} {m e : Int} (h : OfIn w m e w') (hb : Below w'.heap.size w' w'') : OfIn w m e w'' := by
  obtain ⟨h1, h2, h3, h4, h5, h6, h7, h8, h9, h10⟩ := h
  have hs := hb.size
  exact ⟨by omega, (hb.cell (p := ⟨_, _, none⟩) (by show w.heap.size < _; omega)).trans h2, (hb.cell (p := ⟨_, _, none⟩) (by show w.heap.size < _; omega)).trans h3,
    (hb.cell (p := ⟨_, _, none⟩) (by show w.heap.size + 1 < _; omega)).trans h4, (hb.cell (p := ⟨_, _, none⟩) (by show w.heap.size + 1 < _; omega)).trans h5, (hb.cell (p := ⟨_, _, none⟩) (by show w.heap.size + 1 < _; omega)).trans h6,
    (hb.frozen (p := ⟨_, _, none⟩) (by show w.heap.size + 1 < _; omega)).trans h7, (hb.frozen (p := ⟨_, _, none⟩) (by show w.heap.size + 1 < _; omega)).trans h8, (hb.frozen (p := ⟨_, _, none⟩) (by show w.heap.size + 1 < _; omega)).trans h9,
    h10.trans (hb.mono h10.size)⟩
theorem OfIn.drew {w w' : World} {m e : Int} (h : OfIn w m e w') : OfIn w m e w'.drew := h.next (Below.refl _ _).drew
theorem Own.mono {w : World} {base B : Nat} {v : Value} {L : List Nat} (h : Own w base v L) (hB : B ≤ base) : Own w B v L := by
  obtain ⟨h1, h2⟩ := h
  refine ⟨h1, ?_⟩
  rcases h2 with h2 | ⟨g, cap, cur, hv, hg, r⟩
  · exact .inl h2
  · exact .inr ⟨g, cap, cur, hv, by omega, r⟩
theorem Own.put {w : World} {base : Nat} {v : Value} {L : List Nat} (h : Own w base v L) {a : Addr} (ha : a.block < base) (u : Value) : Own (w.setCell a u) base v L := ownsRow_setCell_below h ha u
/-- what Of leaves -/
def OfPost (m e : Int) (w : World) (x : Ending) (w' : World) : Prop := ∃ v, x = .returned (.agg #[.bool (decide (m < 0)), v, .int .i64 e]) ∧ Own w' w.heap.size v (dl m.natAbs) ∧ Below w.heap.size w w'
set_option maxRecDepth 100000 in
set_option maxHeartbeats 1600000 in
theorem rOf_any (m e : Int) (w : World) (h1 : -9223372036854775808 ≤ m) (h2 : m ≤ 9223372036854775807) :
    Calls Tryz.prog 26 #[numV m e] w fun x w' => OfPost m e w x w' := by
  have T0 := Lib.hid (OfIn.start w m e)
  have HD := Lib.hid (fun W => digits_any m W h1 h2)
  clear h1 h2
  go_enter Tryz.func26, Tryz.ntmps26
  go_wp2_with fail
  have T1 := T0.out.drew
  clear T0
  obtain ⟨g0, g1, g2, g3, g4, g5, g6, g7, g8, g9⟩ := id T1
  go_region_law (have _ := T1; go_simp; go_at_call 56; refine (HD.out _).mono ?_; rintro x w1 ⟨v, rfl, hown, hb⟩; have HO := Lib.hid (Own.mono hown (B := w.heap.size + 2) (by show w.heap.size + 1 < _; exact g0)); obtain ⟨A, c, rfl, -, -⟩ := hown.slice; clear hown; have T2 := OfIn.next T1 hb; clear hb T1 g0 g1 g2 g3 g4 g5 g6 g7 g8 g9; obtain ⟨g0, g1, g2, g3, g4, g5, g6, g7, g8, g9⟩ := id T2)
  all_goals go_wp2_with fail
  all_goals refine bodyPost_ret (v := .agg #[.bool (decide (m < 0)), .slice A (dl m.natAbs).length c, .int .i64 e]) (by simp [results, Tryz.results26, go_sem, g3, g4, g5]) rfl ?_
  all_goals refine ⟨_, rfl, ?_, ((g9.setCell (p := ⟨w.heap.size + 1, 0, none⟩) (by show w.heap.size ≤ w.heap.size + 1; omega) _).setCell (p := ⟨w.heap.size + 1, 1, none⟩) (by show w.heap.size ≤ w.heap.size + 1; omega) _).setCell (p := ⟨w.heap.size + 1, 2, none⟩) (by show w.heap.size ≤ w.heap.size + 1; omega) _⟩
  all_goals exact (((HO.out.put (a := ⟨w.heap.size + 1, 0, none⟩) (by show w.heap.size + 1 < w.heap.size + 2; omega) _).put (a := ⟨w.heap.size + 1, 1, none⟩) (by show w.heap.size + 1 < w.heap.size + 2; omega) _).put (a := ⟨w.heap.size + 1, 2, none⟩) (by show w.heap.size + 1 < w.heap.size + 2; omega) _).mono (by omega)
theorem dec_field1 (b : Bool) (A : Option Addr) (n c : Nat) (e : Int) (W : World) : (Instr.field 59 (.agg #[.bool b, .slice A n c, .int .i64 e]) 1).run Tryz.prog W = .ok (.slice A n c) W := by kernel_rfl
/-- a number in a box of the call's own -/
def NumIn (w : World) (m e : Int) (w' : World) : Prop := w.heap.size < w'.heap.size ∧ w'.cell? ⟨w.heap.size, 0, none⟩ = some (.int .i64 m) ∧ w'.cell? ⟨w.heap.size, 1, none⟩ = some (.int .i64 e) ∧ Below w.heap.size w w'
theorem NumIn.start (w : World) (m e : Int) : NumIn w m e (w.alloc (.cells #[.int .i64 m, .int .i64 e] 33)) := ⟨by simp, by simp, by simp, (Below.refl _ w).alloc (Nat.le_refl _) _⟩
theorem NumIn.next {w w' w'' : World} {m e : Int} (h : NumIn w m e w') (hb : Below w'.heap.size w' w'') : NumIn w m e w'' := by
  obtain ⟨h1, h2, h3, h4⟩ := h
  have hs := hb.size
  exact ⟨by omega, (hb.cell (p := ⟨_, _, none⟩) h1).trans h2, (hb.cell (p := ⟨_, _, none⟩) h1).trans h3, h4.trans (hb.mono h4.size)⟩
theorem NumIn.drew {w w' : World} {m e : Int} (h : NumIn w m e w') : NumIn w m e w'.drew := h.next (Below.refl _ _).drew
theorem tmod_zero (m : Int) : m.tmod 10 = 0 ↔ m.natAbs % 10 = 0 := by
  rcases Int.le_total 0 m with h | h
  · rw [Int.tmod_eq_emod_of_nonneg h]; omega
  · obtain ⟨k, rfl⟩ : ∃ k : Int, m = -k := ⟨-m, by omega⟩
    rw [Int.neg_tmod, Int.tmod_eq_emod_of_nonneg (by omega)]; omega
theorem pRight_ref (m e : Int) (h0 : m ≠ 0) : pRight m e = (decide (m < 1000000000000000) && decide (-1000000000000000 < m) && decide (m.natAbs % 10 ≠ 0) && decide (-40 ≤ e) && decide (e ≤ 40) && decide (((dl m.natAbs).length : Int) + e ≤ 40)) := by
  unfold pRight
  rw [if_neg h0, dl_len]
  by_cases hb : m.natAbs < 1000000000000000
  · have hp : 0 < m.natAbs := by omega
    have hd := dlen_digs m.natAbs hp hb
    have hd1 := dlen_pos m.natAbs hp
    rw [hd, decide_eq_true hb, decide_eq_true (by omega : m < 1000000000000000), decide_eq_true (by omega : -1000000000000000 < m)]
    by_cases hs : (dlen m.natAbs : Int) + e ≤ 40
    · rw [decide_eq_true hs, decide_eq_true (by omega : e < 40), decide_eq_true (by omega : e ≤ 40)]
      simp
    · rw [decide_eq_false hs]
      simp
  · rw [decide_eq_false hb]
    by_cases hc : m < 1000000000000000
    · rw [decide_eq_false (by omega : ¬ -1000000000000000 < m)]
      simp
    · rw [decide_eq_false hc]
      simp
set_option maxRecDepth 100000 in
set_option maxHeartbeats 3200000 in
theorem rRight_any (m e : Int) (w : World) (h1 : -9223372036854775808 ≤ m) (h2 : m ≤ 9223372036854775807) :
    Calls Tryz.prog 23 #[numV m e] w fun x w' => x = .returned (.bool (pRight m e)) ∧ Below w.heap.size w w' := by
  have HB : Hid (Below w.heap.size w (w.alloc (.cells #[.int .i64 m, .int .i64 e] 33))) := Lib.hid ((Below.refl _ w).alloc (Nat.le_refl _) _)
  by_cases h0 : m = 0
  · have hr : Hid (pRight m e = decide (e = 0)) := Lib.hid (if_pos h0)
    subst h0
    generalize pRight 0 e = r at *
    go_enter Tryz.func23, Tryz.ntmps23
    go_wp2_with fail
    go_ret
    exact ⟨ret_bool (by rw [hr.out]; rfl), HB.out⟩
  have HR := Lib.hid (pRight_ref m e h0)
  have HOf := Lib.hid (fun W => rOf_any m e W h1 h2)
  have hlen : (dl m.natAbs).length ≤ 20 := dl_len_le _ (by omega)
  generalize pRight m e = r at *
  have b0 : (m == 0) = false := by rw [beq_eq_false_iff_ne]; exact h0
  have T0 := Lib.hid (NumIn.start w m e)
  have hz := tmod_zero m
  have HZ := Lib.hid hz
  have H0 := Lib.hid h0
  clear hz h0
  by_cases c1 : m < 1000000000000000
  · by_cases c2 : -1000000000000000 < m
    · rw [decide_eq_true c1, decide_eq_true c2] at HR
      have d1 : decide ((1000000000000000 : Int) ≤ m) = false := by simp; omega
      have d2 : decide (m ≤ -1000000000000000) = false := by simp; omega
      by_cases c3 : m.natAbs % 10 = 0
      · rw [decide_eq_false (fun h => h c3)] at HR
        have hr : Hid (r = false) := Lib.hid (by rw [HR.out]; simp)
        have t3 : (m.tmod 10 == 0) = true := by rw [beq_iff_eq]; exact HZ.out.2 c3
        have t4 : (m % 10 == 0) = true := by rw [beq_iff_eq]; omega
        clear HR c3 c1 c2
        by_cases hp : 0 ≤ m
        all_goals
          go_enter Tryz.func23, Tryz.ntmps23
          go_wp2_with fail
          go_ret
          exact ⟨ret_bool (by rw [hr.out]), HB.out⟩
      · rw [decide_eq_true c3] at HR
        have t3 : (m.tmod 10 == 0) = false := by rw [beq_eq_false_iff_ne]; exact fun h => c3 (HZ.out.1 h)
        have t4 : (m % 10 == 0) = false := by rw [beq_eq_false_iff_ne]; omega
        clear c3 c1 c2
        by_cases c4 : -40 ≤ e
        · by_cases c5 : e ≤ 40
          · rw [decide_eq_true c4, decide_eq_true c5] at HR
            have hr : Hid (r = decide (((dl m.natAbs).length : Int) + e ≤ 40)) := Lib.hid (by rw [HR.out]; rfl)
            clear HR HZ
            have hfl := dec_field1
            have hw : IntKind.i64.wrap (((dl m.natAbs).length : Int) + e) = ((dl m.natAbs).length : Int) + e := IntWalk.i64_in _ (by omega)
            by_cases hp : 0 ≤ m
            all_goals
              go_enter Tryz.func23, Tryz.ntmps23
              go_wp2_with fail
              go_region_held3 (fun w' => w.heap.size < w'.heap.size ∧ w'.cell? ⟨w.heap.size, 0, none⟩ = some (.int .i64 m) ∧ w'.cell? ⟨w.heap.size, 1, none⟩ = some (.int .i64 e) ∧ Below w.heap.size w w')
                (first | exact T0.out | exact T0.out.drew | exact (NumIn.next T0.out.drew hb) | (go_split_ands; exact (NumIn.next (w := w) ⟨by assumption, by assumption, by assumption, by assumption⟩ hb)))
                ((go_at_call 26; refine (HOf.out _).mono ?_; rintro x wx ⟨v, rfl, hown, hb⟩; obtain ⟨A, c, rfl, -, -⟩ := hown.slice; clear hown))
              all_goals go_wp2_with fail
              all_goals go_ret
              all_goals refine ⟨ret_bool (by rw [hr.out]), ?_⟩
              all_goals first | assumption | (go_split_ands; assumption)
          · rw [decide_eq_false c5] at HR
            have hr : Hid (r = false) := Lib.hid (by rw [HR.out]; simp)
            have d5 : decide ((40 : Int) < e) = true := by simp; omega
            clear HR
            by_cases hp : 0 ≤ m
            all_goals
              go_enter Tryz.func23, Tryz.ntmps23
              go_wp2_with fail
              go_ret
              exact ⟨ret_bool (by rw [hr.out]), HB.out⟩
        · rw [decide_eq_false c4] at HR
          have hr : Hid (r = false) := Lib.hid (by rw [HR.out]; simp)
          have d4 : decide (e < (-40 : Int)) = true := by simp; omega
          clear HR
          by_cases hp : 0 ≤ m
          all_goals
            go_enter Tryz.func23, Tryz.ntmps23
            go_wp2_with fail
            go_ret
            exact ⟨ret_bool (by rw [hr.out]), HB.out⟩
    · rw [decide_eq_false c2] at HR
      have hr : Hid (r = false) := Lib.hid (by rw [HR.out]; simp)
      have d1 : decide ((1000000000000000 : Int) ≤ m) = false := by simp; omega
      have d2 : decide (m ≤ -1000000000000000) = true := by simp; omega
      clear HR c1 c2
      go_enter Tryz.func23, Tryz.ntmps23
      go_wp2_with fail
      go_ret
      exact ⟨ret_bool (by rw [hr.out]), HB.out⟩
  · rw [decide_eq_false c1] at HR
    have hr : Hid (r = false) := Lib.hid (by rw [HR.out]; simp)
    have d1 : decide ((1000000000000000 : Int) ≤ m) = true := by simp; omega
    clear HR c1
    go_enter Tryz.func23, Tryz.ntmps23
    go_wp2_with fail
    go_ret
    exact ⟨ret_bool (by rw [hr.out]), HB.out⟩
end Go.Proofs.YtpdaloohgfnbhaaGreatDoor
