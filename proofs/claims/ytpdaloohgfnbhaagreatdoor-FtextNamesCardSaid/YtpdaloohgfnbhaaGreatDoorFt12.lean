/-
  num.digitsOf, Make, Floor, Int; ftext.count, whole; length, left, right, mid, exact, find.
-/
import Derived.Test.YtpdaloohgfnbhaaGreatDoorNum10
import Derived.Test.YtpdaloohgfnbhaaGreatDoorNum11
import Derived.Test.YtpdaloohgfnbhaaGreatDoorNum2
import Derived.Test.YtpdaloohgfnbhaaGreatDoorPlainH
import Derived.Test.YtpdaloohgfnbhaaGreatDoorBuild1
import Derived.Test.YtpdaloohgfnbhaaGreatDoorLex8
import Derived.Test.YtpdaloohgfnbhaaGreatDoorFt9
namespace Go.Proofs.YtpdaloohgfnbhaaGreatDoor
open Go.RowKit

def dD (n : Nat) : List Nat := digL (Lib.decDigits n)
theorem dD_dig (n : Nat) : Dig (dD n) := fun d hd => by
  obtain ⟨c, hc, rfl⟩ := List.mem_map.1 hd
  have := (isDigit_iff c).1 ((dec_dig n).1 c hc)
  omega
theorem dD_nat (n : Nat) : natOf (dD n) = n := (dec_dig n).2
theorem own_at_iter {w : World} {base : Nat} {e : TypeId} {size : Nat} {v : Value} {n : Nat} {xs : List Value} (h : w.ownsRow base e size v n xs) {k : Nat} {s : ByteArray} {p : Nat} (hk : w.heap[k]? = some (.stringIter s p)) (p' : Nat) : (w.iterAt k s p').ownsRow base e size v n xs := by
  refine ⟨h.1, h.2.imp id ?_⟩
  rintro ⟨g, cap, cur, a1, a2, a3, a4⟩
  have hne : g ≠ k := fun e => by
    subst e
    rw [hk] at a3
    cases a3
  exact ⟨g, cap, cur, a1, a2, (Lib.iterAt_other w k g s p' hne).trans a3, a4⟩
theorem iter_grown {w w' : World} {base : Nat} {e : TypeId} {size : Nat} {v : Value} {n : Nat} {xs : List Value} (h : w.ownsRow base e size v n xs) {k : Nat} {s : ByteArray} {p : Nat} (hk : w.heap[k]? = some (.stringIter s p)) {o : Obj} (hg : (w.alloc o).grownBy w' v.ownBlock) : w'.heap[k]? = some (.stringIter s p) := by
  have hlt : k < w.heap.size := (Array.getElem?_eq_some_iff.1 hk).1
  rw [hg.block k (by simp; omega) ?_]
  · unfold World.alloc
    simp only
    rw [Array.getElem?_push_lt hlt]
    rw [Array.getElem?_eq_getElem hlt] at hk
    exact hk
  · rcases h.2 with ⟨rfl, _⟩ | ⟨g, cap, cur, rfl, -, a3, -⟩
    · simp [Value.ownBlock]
    · intro e
      simp only [Value.ownBlock, Option.some.injEq] at e
      subst e
      rw [hk] at a3
      cases a3
def DigPost (w : World) (L : List Nat) (e : Ending) (w' : World) : Prop := ∃ v, e = .returned v ∧ w'.ownsRow w.heap.size 5 1 v L.length (L.map byteV) ∧ Below w.heap.size w w'
set_option maxRecDepth 100000 in
set_option maxHeartbeats 3200000 in
theorem digitsOf_any (n : Nat) (w : World) (hn : n ≤ 9223372036854775807) (hp : PowTab w) :
    Calls Tryz.prog 118 #[.int .u64 (n : Int)] w (DigPost w (dD n)) := by
  obtain ⟨i0, hi, hz0, hz1, hz2⟩ := info_parts infoByte
  have CF := Lib.hid (fmt_any n (by omega) w hp)
  have hlen : 1 ≤ (Lib.decDigits n).length ∧ (Lib.decDigits n).length ≤ 20 := by
    have := dec_len (n : Int) (by omega) (by omega)
    simpa using this
  have HD := Lib.hid (dec_dig n).1
  unfold dD
  clear hn hp
  generalize Lib.decDigits n = t at *
  go_enter Tryz.func118, Tryz.ntmps118
  go_wp2_with fail
  refine CF.out.mono ?_
  rintro e w1 ⟨rfl, hb⟩
  obtain ⟨W2, hmk, hown, hgr⟩ := run_make_own (P := Tryz.prog) w1 w.heap.size 54 5 i0 (.int .u8 0) 1 Tryz.underlying54 hi hz0 hz1 .i64 .i64 t.length (by rw [hz2]; omega) (by unfold maxLen; omega) hb.size
  have HO2 := Lib.hid hown
  have HB2 : Hid (Below w.heap.size w W2) := Lib.hid (hb.trans ⟨hgr.os, hgr.tape, hgr.output, hgr.size, fun i hi => hgr.block i (Nat.lt_of_lt_of_le hi hb.size) (by simp)⟩)
  have HS : Hid ((ByteArray.mk t.toArray).size = t.length) := Lib.hid (by simp [ByteArray.size])
  clear hown hgr hb
  have HO3 : Hid ((W2.iter ⟨t.toArray⟩ 0).ownsRow w.heap.size 5 1 (.slice (some ⟨w1.heap.size, 0, none⟩) 0 t.length) 0 []) := Lib.hid (HO2.out.alloc _)
  have HI3 : Hid ((W2.iter ⟨t.toArray⟩ 0).heap[W2.heap.size]? = some (.stringIter ⟨t.toArray⟩ 0)) := Lib.hid (World.iter_heap W2 ⟨t.toArray⟩ 0)
  have HB3 : Hid (Below w.heap.size w (W2.iter ⟨t.toArray⟩ 0)) := Lib.hid (HB2.out.alloc HB2.out.size _)
  clear HO2
  have hk0 : w.heap.size ≤ W2.heap.size := HB2.out.size
  clear HB2
  go_wp2_with fail
  generalize hK : W2.heap.size = k at *
  have HK := Lib.hid hK
  clear hK hmk
  go_loopw [4, 6] (fun v _ wr => ∃ pos : Nat, pos ≤ t.length ∧ Hid (wr.ownsRow w.heap.size 5 1 v (digL (t.take pos)).length ((digL (t.take pos)).map byteV)) ∧ Hid (wr.heap[k]? = some (.stringIter ⟨t.toArray⟩ pos)) ∧ Hid (Below w.heap.size w wr)) (fun _ _ wr => t.length - wr.iterPos k)
  case atStart => exact ⟨0, Nat.zero_le _, HO3, HI3, HB3⟩
  case round =>
    obtain ⟨pos, hpos, hown, hit, hbel⟩ := hrel
    rename_i v _
    clear HO3 HI3 HB3 HK
    by_cases hp : pos < t.length
    · have hps : pos < (ByteArray.mk t.toArray).size := by rw [HS.out]; exact hp
      have hg : (ByteArray.mk t.toArray)[pos] = t[pos] := S_get t pos hps
      have hdg := (isDigit_iff t[pos]).1 (HD.out _ (List.getElem_mem hp))
      have hnx : ∀ ty, (Instr.next (.pointer (some ⟨k, 0, none⟩)) true ty).run Tryz.prog wr = .ok (.tuple #[.bool true, .int .i64 pos, .int .i32 (t[pos].toNat : Int)]) (wr.iterAt k ⟨t.toArray⟩ (pos + 1)) := by
        intro ty
        have := Lib.run_next_ascii_at (P := Tryz.prog) wr k ⟨t.toArray⟩ pos ty hit.out hps (by rw [hg]; omega)
        rw [hg] at this
        exact this
      have HO4 := Lib.hid (own_at_iter hown.out hit.out (pos + 1))
      have HI4 : Hid ((wr.iterAt k ⟨t.toArray⟩ (pos + 1)).heap[k]? = some (.stringIter ⟨t.toArray⟩ (pos + 1))) := Lib.hid (Lib.iterAt_heap wr k ⟨t.toArray⟩ pos (pos + 1) hit.out)
      have HB4 : Hid (Below w.heap.size w (wr.iterAt k ⟨t.toArray⟩ (pos + 1))) := Lib.hid (Lib.below_iterAt hbel.out hk0 ⟨t.toArray⟩ (pos + 1))
      have hp1 : Hid (wr.iterPos k = pos) := Lib.hid (by unfold World.iterPos; rw [hit.out])
      have hsn : Hid (digL (t.take (pos + 1)) = digL (t.take pos) ++ [t[pos].toNat - 48]) := Lib.hid (by rw [List.take_succ_eq_append_getElem hp, digL_append]; rfl)
      have hc0 : IntKind.u8.wrap ((t[pos].toNat : Int) - 48) = (t[pos].toNat : Int) - 48 := by
        have : (0 : Int) ≤ (t[pos].toNat : Int) - 48 ∧ (t[pos].toNat : Int) - 48 ≤ 9 := by omega
        generalize (t[pos].toNat : Int) - 48 = z at *
        unfold IntKind.wrap
        simp [IntKind.bits, IntKind.signed]
        omega
      have HC : Hid ((t[pos].toNat : Int) - 48 = ((t[pos].toNat - 48 : Nat) : Int)) := Lib.hid (by omega)
      have hlt8 : (t[pos].toNat : Int) - 48 ≤ 9 ∧ 0 ≤ (t[pos].toNat : Int) - 48 := by omega
      clear hown hit hbel hg hdg
      generalize wr.iterAt k ⟨t.toArray⟩ (pos + 1) = w4 at *
      generalize t[pos].toNat = c at *
      go_wp2_with (at_builtin; refine wpList_append_own _ rfl _ _ 54 rfl w.heap.size 5 i0 (.int .u8 0) 1 1 Tryz.underlying54 hi hz0 hz1 hz2 rfl (by decide) _ _ _ rfl (HO4.out.alloc _) ⟨w4.heap.size, 0, none⟩ 1 1 [.int .u8 ((c : Int) - 48)] rfl rfl ?c1 ?c2 ?c3 ?c4 ?c5 ?_)
      case c1 =>
        intro j u hj
        match j, hj with
        | 0, hj => simp at hj; subst hj; simp [Addr.add]
      case c2 =>
        intro u hu
        simp at hu
        subst hu
        rfl
      case c3 => rw [digL_len]; unfold maxLen; have := List.length_take_le pos t; omega
      case c4 => rw [digL_len]; have := List.length_take_le pos t; omega
      case c5 => have := HB4.out.size; simp; omega
      intro v' w5 hown' hgrow _
      have HO5 : Hid (w5.ownsRow w.heap.size 5 1 v' (digL (t.take (pos + 1))).length ((digL (t.take (pos + 1))).map byteV)) := Lib.hid (by
        rw [hsn.out, List.map_append, List.length_append]
        simpa [byteV, ← HC.out] using hown')
      have HI5 := Lib.hid (iter_grown HO4.out HI4.out hgrow)
      have HB5 : Hid (Below w.heap.size w w5) := Lib.hid ((HB4.out.alloc HB4.out.size _).grown hgrow (by have := HB4.out.size; simp; omega) (fun j hj => (HO4.out.lt j hj).1))
      have hp2 : Hid (w5.iterPos k = pos + 1) := Lib.hid (by unfold World.iterPos; rw [HI5.out])
      clear hown' hgrow HO4 HI4 HB4 hnx hc0 hlt8
      go_wp2_with fail
      go_roundw
      case rel => exact ⟨pos + 1, by omega, HO5, HI5, HB5⟩
      case measure => rw [hp2.out, hp1.out]; omega
    · have hnx : ∀ ty, (Instr.next (.pointer (some ⟨k, 0, none⟩)) true ty).run Tryz.prog wr = .ok (.tuple #[.bool false]) wr :=
        fun ty => Lib.run_next_end_at (P := Tryz.prog) wr k ⟨t.toArray⟩ pos ty hit.out (by rw [HS.out]; exact hp)
      have hall : Hid (t.take pos = t) := Lib.hid (List.take_of_length_le (by omega))
      clear hit
      go_wp2_with fail
      go_ret
      rw [hall.out] at hown
      exact ⟨_, rfl, hown.out, hbel.out⟩
set_option maxRecDepth 100000 in
set_option maxHeartbeats 3200000 in
theorem numMake_any (n : Nat) (w : World) (hn : n ≤ 1000000) (hp : PowTab w) :
    Calls Tryz.prog 88 #[.int .i64 (n : Int), .int .i64 0] w fun x w' => x = .returned (numOut (pNear false n 0)) ∧ Below w.heap.size w w' := by
  have HS := Lib.hid (fun W => size_any (n : Int) W (by omega) (by omega))
  rw [show ((n : Int).natAbs : Nat) = n by omega] at HS
  have HB1 : Hid (Below w.heap.size w (w.alloc (.cells #[.int .i64 0, .int .i64 0] 33))) := Lib.hid ((Below.refl _ w).alloc (Nat.le_refl _) _)
  have HR1 : Hid (Lies (w.alloc (.cells #[.int .i64 0, .int .i64 0] 33)) w.heap.size 33 #[.int .i64 0, .int .i64 0]) := Lib.hid (Lies.new w _ _)
  have CD := Lib.hid (digitsOf_any n (w.alloc (.cells #[.int .i64 0, .int .i64 0] 33)) (by omega) (hp.next HB1.out))
  have hneg : ¬ (n : Int) < 0 := by omega
  have hdl : (dD n).length ≤ 20 := by
    unfold dD digL
    rw [List.length_map]
    exact (dec_len (n : Int) (by omega) (by omega)).2
  have HDl := Lib.hid hdl
  clear hp hdl
  go_enter Tryz.func88, Tryz.ntmps88
  go_upto_region 1 with fail
  generalize w.alloc (.cells #[.int .i64 0, .int .i64 0] 33) = W1 at *
  generalize hqe : w.heap.size = q at *
  have HQ := Lib.hid hqe
  clear hqe
  go_wp2_with fail
  refine (HS.out _).mono ?_
  rintro e w2 ⟨rfl, rfl⟩
  go_wp2_with fail
  refine CD.out.mono ?_
  rintro e w3 ⟨v, rfl, ho, hb⟩
  have hdp : 0 < (dD n).length := by
    unfold dD digL
    rw [List.length_map]
    exact (dec_len (n : Int) (by omega) (by omega)).1
  obtain ⟨g, cap, rfl, hsl, hrow⟩ := own_sl ho (Nat.le_refl _) hdp
  have hg : g < w3.heap.size := by
    obtain ⟨b, off, e1, _, e3, _⟩ := hsl.2.2 hdp
    injection e1 with e1
    injection e1 with e1 _ _
    omega
  have CR := Lib.hid (round_any false _ cap W1.heap.size (dD n) 0 w3 hsl hb.size (fun a h => by injection h with h; subst h; exact hg) (dD_dig n) (Nat.le_trans HDl.out (by decide)) (by decide) (by decide))
  rw [dD_nat] at CR
  have HR3 := Lib.hid (HR1.out.next hb)
  have HB3 := Lib.hid (HB1.out.trans (hb.mono (Nat.le_of_lt HR1.out.lt)))
  have hqs : q < W1.heap.size := HR1.out.lt
  have hW3 : W1.heap.size ≤ w3.heap.size := hb.size
  clear ho hsl hrow hb HS CD hg
  generalize (dD n).length = dl at *
  go_wp2_with fail
  refine CR.out.mono ?_
  rintro e w4 ⟨rfl, hb⟩
  have HR4 : Hid (Lies w4 q 33 #[.int .i64 0, .int .i64 0]) := Lib.hid ((hb.block q hqs).trans HR3.out)
  have HB4 := Lib.hid (HB3.out.trans (hb.mono (Nat.le_of_lt hqs)))
  have x0 := HR4.out.cell 0
  have x1 := HR4.out.cell 1
  have f0 := HR4.out.frozen 0
  have f1 := HR4.out.frozen 1
  simp only [List.getElem?_toArray, List.getElem?_cons_zero, List.getElem?_cons_succ] at x0 x1
  clear HR3 HB3 CR hb HR1 HB1
  cases hq2 : pNear false n 0 with
  | none =>
    dsimp only [numOut, numV]
    go_wp2_with fail
    refine bodyPost_ret (v := .tuple #[.agg #[.int .i64 0, .int .i64 0], .bool false]) (by simp [results, Tryz.results88, go_sem, x0, x1]) rfl ?_
    refine ⟨by rw [hq2]; rfl, ?_⟩
    rw [HQ.out]
    exact below_set (below_set HB4.out (Nat.le_refl _) 0 _) (Nat.le_refl _) 1 _
  | some qq =>
    obtain ⟨m, e⟩ := qq
    dsimp only [numOut, numV]
    go_wp2_with fail
    refine bodyPost_ret (v := .tuple #[.agg #[.int .i64 m, .int .i64 e], .bool true]) (by simp [results, Tryz.results88, go_sem, x0, x1]) rfl ?_
    refine ⟨by rw [hq2]; rfl, ?_⟩
    rw [HQ.out]
    exact below_set (below_set HB4.out (Nat.le_refl _) 0 _) (Nat.le_refl _) 1 _
/-- the value of a whole number -/
def pCount (n : Nat) : Val := match pNear false n 0 with
  | some q => vNumber q.1 q.2
  | none => vNumber 0 0
set_option maxRecDepth 100000 in
set_option maxHeartbeats 3200000 in
theorem fcount_any (n : Nat) (w : World) (hn : n ≤ 1000000) (hp : PowTab w) :
    Calls Tryz.prog 62 #[.int .i64 (n : Int)] w fun x w' => x = .returned (valV (pCount n)) ∧ Below w.heap.size w w' := by
  have HB1 : Hid (Below w.heap.size w (w.alloc (.cells (valC ⟨0, 0, 0, [], false, 0⟩) 35))) := Lib.hid ((Below.refl _ w).alloc (Nat.le_refl _) _)
  have HR1 : Hid (Lies (w.alloc (.cells (valC ⟨0, 0, 0, [], false, 0⟩) 35)) w.heap.size 35 (valC ⟨0, 0, 0, [], false, 0⟩)) := Lib.hid (Lies.new w _ _)
  dsimp only [valC] at HB1 HR1
  have CM := Lib.hid (numMake_any n (w.alloc (.cells #[.int .i64 0, .int .i64 0, .int .i64 0, .string ⟨#[]⟩, .bool false, .int .i64 0] 35)) hn (hp.next HB1.out))
  obtain ⟨m, e, ok, hout, hpc⟩ : ∃ m e ok, numOut (pNear false n 0) = .tuple #[numV m e, .bool ok] ∧ pCount n = vNumber m e := by
    unfold pCount numOut
    cases pNear false n 0 with
    | none => exact ⟨0, 0, false, rfl, rfl⟩
    | some q => exact ⟨q.1, q.2, true, rfl, rfl⟩
  rw [hout] at CM
  rw [hpc]
  clear hout hpc hp
  unfold numV at CM
  go_enter Tryz.func62, Tryz.ntmps62
  go_upto_region 1 with fail
  generalize w.alloc (.cells #[.int .i64 0, .int .i64 0, .int .i64 0, .string ⟨#[]⟩, .bool false, .int .i64 0] 35) = W1 at *
  generalize hqe : w.heap.size = q at *
  have HQ := Lib.hid hqe
  clear hqe
  go_wp2_with fail
  refine CM.out.mono ?_
  rintro x w2 ⟨rfl, hb⟩
  have HR2 := Lib.hid (HR1.out.next hb)
  have HB2 := Lib.hid (HB1.out.trans (hb.mono (Nat.le_of_lt HR1.out.lt)))
  have hqs : q < w2.heap.size := HR2.out.lt
  have CO := Lib.hid (fun W => of_any m e W)
  unfold numV at CO
  clear CM hb HR1 HB1
  go_wp2_with fail
  refine (CO.out _).mono ?_
  rintro x w3 ⟨rfl, hb⟩
  have hbA : Below w2.heap.size w2 w3 := ((Below.refl _ w2).alloc (Nat.le_refl _) _).trans (hb.mono (by rw [World.size_alloc]; omega))
  have HR3 := Lib.hid (HR2.out.next hbA)
  have HB3 := Lib.hid (HB2.out.trans (hbA.mono (Nat.le_of_lt hqs)))
  clear hb hbA HR2 HB2 CO
  obtain ⟨r, hr⟩ : ∃ r, vNumber m e = r := ⟨_, rfl⟩
  rw [hr]
  obtain ⟨rk, rm, re, rt, rtr, rf⟩ := r
  have x0 := HR3.out.cell 0
  have x1 := HR3.out.cell 1
  have x2 := HR3.out.cell 2
  have x3 := HR3.out.cell 3
  have x4 := HR3.out.cell 4
  have x5 := HR3.out.cell 5
  have f0 := HR3.out.frozen 0
  have f1 := HR3.out.frozen 1
  have f2 := HR3.out.frozen 2
  have f3 := HR3.out.frozen 3
  have f4 := HR3.out.frozen 4
  have f5 := HR3.out.frozen 5
  simp only [List.getElem?_toArray, List.getElem?_cons_zero, List.getElem?_cons_succ] at x0 x1 x2 x3 x4 x5
  dsimp only [valV, valC]
  go_wp2_with fail
  refine bodyPost_ret (v := .agg #[.int .i64 rk, .int .i64 rm, .int .i64 re, .string ⟨rt.toArray⟩, .bool rtr, .int .i64 rf]) (by simp [results, Tryz.results62, go_sem, x0, x1, x2, x3, x4, x5]) rfl ?_
  refine ⟨by rw [hr], ?_⟩
  rw [HQ.out]
  exact st6_below (i := 0) (x := ⟨rk, rm, re, rt, rtr, rf⟩) HB3.out (Nat.le_refl _)
def tIt (t : Bs) : It := ⟨t, 0, 0, 0⟩
def nIt (n : Int) : It := ⟨[], n, 0, 0⟩
set_option maxRecDepth 100000 in
set_option maxHeartbeats 3200000 in
theorem flength_any (t : Bs) (ht : t.length ≤ 1000000) (B : Nat) (w : World) (hp : PowTab w) (hI : IBk w B [tIt t]) :
    Calls Tryz.prog 30 #[.slice (some ⟨B, 0, none⟩) 1 1] w fun x w' => x = .returned (valV (pCount t.length)) ∧ Below w.heap.size w w' := by
  have HB1 : Hid (Below w.heap.size w (w.alloc (.cells #[.int .i64 0, .int .i64 0, .int .i64 0, .string ⟨#[]⟩, .bool false, .int .i64 0] 35))) := Lib.hid ((Below.refl _ w).alloc (Nat.le_refl _) _)
  have HR1 : Hid (Lies (w.alloc (.cells #[.int .i64 0, .int .i64 0, .int .i64 0, .string ⟨#[]⟩, .bool false, .int .i64 0] 35)) w.heap.size 35 #[.int .i64 0, .int .i64 0, .int .i64 0, .string ⟨#[]⟩, .bool false, .int .i64 0]) := Lib.hid (Lies.new w _ _)
  have HI := Lib.hid (hI.next ((Below.refl _ w).alloc (Nat.le_refl _) (.cells #[.int .i64 0, .int .i64 0, .int .i64 0, .string ⟨#[]⟩, .bool false, .int .i64 0] 35)))
  have CC := Lib.hid (fcount_any t.length _ ht (hp.next HB1.out))
  clear hp
  clear hI
  go_enter Tryz.func30, Tryz.ntmps30
  go_upto_region 1 with fail
  generalize w.alloc (.cells #[.int .i64 0, .int .i64 0, .int .i64 0, .string ⟨#[]⟩, .bool false, .int .i64 0] 35) = W1 at *
  generalize hqe : w.heap.size = q at *
  have HQ := Lib.hid hqe
  clear hqe
  have c0 : W1.cell? ⟨B, 0, none⟩ = some (.string ⟨t.toArray⟩) := HI.out.cell 0 (by simp) 0 (by decide)
  go_wp2_with fail
  refine CC.out.mono ?_
  rintro x w9 ⟨rfl, hb9⟩
  have HR9 := Lib.hid (HR1.out.next hb9)
  have HB9 := Lib.hid (HB1.out.trans (hb9.mono (Nat.le_of_lt HR1.out.lt)))
  clear hb9 HR1 HB1 
  obtain ⟨r, hr⟩ : ∃ r, (pCount t.length) = r := ⟨_, rfl⟩
  rw [hr]
  obtain ⟨rk, rm, re, rt, rtr, rf⟩ := r
  have x0 := HR9.out.cell 0
  have x1 := HR9.out.cell 1
  have x2 := HR9.out.cell 2
  have x3 := HR9.out.cell 3
  have x4 := HR9.out.cell 4
  have x5 := HR9.out.cell 5
  have f0 := HR9.out.frozen 0
  have f1 := HR9.out.frozen 1
  have f2 := HR9.out.frozen 2
  have f3 := HR9.out.frozen 3
  have f4 := HR9.out.frozen 4
  have f5 := HR9.out.frozen 5
  simp only [List.getElem?_toArray, List.getElem?_cons_zero, List.getElem?_cons_succ] at x0 x1 x2 x3 x4 x5
  dsimp only [valV, valC]
  go_wp2_with fail
  refine bodyPost_ret (v := .agg #[.int .i64 rk, .int .i64 rm, .int .i64 re, .string ⟨rt.toArray⟩, .bool rtr, .int .i64 rf]) (by simp [results, Tryz.results30, go_sem, x0, x1, x2, x3, x4, x5]) rfl ?_
  refine ⟨by first | rfl | rw [hr], ?_⟩
  rw [HQ.out]
  exact st6_below (i := 0) (x := ⟨rk, rm, re, rt, rtr, rf⟩) HB9.out (Nat.le_refl _)
set_option maxRecDepth 100000 in
set_option maxHeartbeats 3200000 in
theorem many_any (t : Bs) (n : Nat) (B : Nat) (w : World) (hI : IBk w B [tIt t, nIt n]) :
    Calls Tryz.prog 64 #[.slice (some ⟨B, 0, none⟩) 2 2] w fun x w' => x = .returned (.tuple #[.int .i64 ((min n t.length : Nat) : Int), .bool true]) ∧ w' = w := by
  have c0 : w.cell? ⟨B, 0, none⟩ = some (.string ⟨t.toArray⟩) := hI.cell 0 (by simp) 0 (by decide)
  have c1 : w.cell? ⟨B, 5, none⟩ = some (.int .i64 n) := hI.cell 1 (by simp) 1 (by decide)
  clear hI
  have h0 : (0 : Int) ≤ (n : Int) := Int.natCast_nonneg n
  by_cases h : n < t.length
  · rw [Nat.min_eq_left (Nat.le_of_lt h)]
    have hlt : (n : Int) < (t.length : Int) := by omega
    go_enter Tryz.func64, Tryz.ntmps64
    go_wp2_with fail
    refine bodyPost_ret (v := .tuple #[.int .i64 n, .bool true]) (by simp [results, Tryz.results64, go_sem]; omega) rfl ?_
    exact ⟨rfl, rfl⟩
  · rw [Nat.min_eq_right (Nat.le_of_not_lt h)]
    have hlt : ¬ (n : Int) < (t.length : Int) := by omega
    go_enter Tryz.func64, Tryz.ntmps64
    go_wp2_with fail
    refine bodyPost_ret (v := .tuple #[.int .i64 t.length, .bool true]) (by simp [results, Tryz.results64, go_sem]; omega) rfl ?_
    exact ⟨rfl, rfl⟩
set_option maxRecDepth 100000 in
set_option maxHeartbeats 3200000 in
theorem fleft_any (t : Bs) (n : Nat) (ht : t.length ≤ 1000000) (B : Nat) (w : World) (hI : IBk w B [tIt t, nIt n]) :
    Calls Tryz.prog 32 #[.slice (some ⟨B, 0, none⟩) 2 2] w fun x w' => x = .returned (valV (vText (t.take (min n t.length)))) ∧ Below w.heap.size w w' := by
  have HB1 : Hid (Below w.heap.size w (w.alloc (.cells #[.int .i64 0, .int .i64 0, .int .i64 0, .string ⟨#[]⟩, .bool false, .int .i64 0] 35))) := Lib.hid ((Below.refl _ w).alloc (Nat.le_refl _) _)
  have HR1 : Hid (Lies (w.alloc (.cells #[.int .i64 0, .int .i64 0, .int .i64 0, .string ⟨#[]⟩, .bool false, .int .i64 0] 35)) w.heap.size 35 #[.int .i64 0, .int .i64 0, .int .i64 0, .string ⟨#[]⟩, .bool false, .int .i64 0]) := Lib.hid (Lies.new w _ _)
  have HI := Lib.hid (hI.next ((Below.refl _ w).alloc (Nat.le_refl _) (.cells #[.int .i64 0, .int .i64 0, .int .i64 0, .string ⟨#[]⟩, .bool false, .int .i64 0] 35)))
  have CM := Lib.hid (many_any t n B _ HI.out)
  have CC := Lib.hid (fun W => text_any (t.take (min n t.length)) W (by simp; omega))
  have hm : min n t.length ≤ t.length := Nat.min_le_right _ _
  generalize min n t.length = m at *
  have hmi : (0 : Int) ≤ (m : Int) ∧ (m : Int) ≤ (t.length : Int) := by omega
  clear hI
  go_enter Tryz.func32, Tryz.ntmps32
  go_upto_region 1 with fail
  generalize w.alloc (.cells #[.int .i64 0, .int .i64 0, .int .i64 0, .string ⟨#[]⟩, .bool false, .int .i64 0] 35) = W1 at *
  generalize hqe : w.heap.size = q at *
  have HQ := Lib.hid hqe
  clear hqe
  have c0 : W1.cell? ⟨B, 0, none⟩ = some (.string ⟨t.toArray⟩) := HI.out.cell 0 (by simp) 0 (by decide)
  go_wp2_with fail
  refine CM.out.mono ?_
  rintro x w2 ⟨rfl, rfl⟩
  go_wp2_with fail
  refine (CC.out _).mono ?_
  rintro x w9 ⟨rfl, hb9⟩
  have HR9 := Lib.hid (HR1.out.next hb9)
  have HB9 := Lib.hid (HB1.out.trans (hb9.mono (Nat.le_of_lt HR1.out.lt)))
  clear hb9 HR1 HB1 
  obtain ⟨r, hr⟩ : ∃ r, (vText (t.take (m))) = r := ⟨_, rfl⟩
  rw [hr]
  obtain ⟨rk, rm, re, rt, rtr, rf⟩ := r
  have x0 := HR9.out.cell 0
  have x1 := HR9.out.cell 1
  have x2 := HR9.out.cell 2
  have x3 := HR9.out.cell 3
  have x4 := HR9.out.cell 4
  have x5 := HR9.out.cell 5
  have f0 := HR9.out.frozen 0
  have f1 := HR9.out.frozen 1
  have f2 := HR9.out.frozen 2
  have f3 := HR9.out.frozen 3
  have f4 := HR9.out.frozen 4
  have f5 := HR9.out.frozen 5
  simp only [List.getElem?_toArray, List.getElem?_cons_zero, List.getElem?_cons_succ] at x0 x1 x2 x3 x4 x5
  dsimp only [valV, valC]
  go_wp2_with fail
  refine bodyPost_ret (v := .agg #[.int .i64 rk, .int .i64 rm, .int .i64 re, .string ⟨rt.toArray⟩, .bool rtr, .int .i64 rf]) (by simp [results, Tryz.results32, go_sem, x0, x1, x2, x3, x4, x5]) rfl ?_
  refine ⟨by first | rfl | rw [hr], ?_⟩
  rw [HQ.out]
  exact st6_below (i := 0) (x := ⟨rk, rm, re, rt, rtr, rf⟩) HB9.out (Nat.le_refl _)
set_option maxRecDepth 100000 in
set_option maxHeartbeats 3200000 in
theorem fright_any (t : Bs) (n : Nat) (ht : t.length ≤ 1000000) (B : Nat) (w : World) (hI : IBk w B [tIt t, nIt n]) :
    Calls Tryz.prog 34 #[.slice (some ⟨B, 0, none⟩) 2 2] w fun x w' => x = .returned (valV (vText (t.drop (t.length - min n t.length)))) ∧ Below w.heap.size w w' := by
  have HB1 : Hid (Below w.heap.size w (w.alloc (.cells #[.int .i64 0, .int .i64 0, .int .i64 0, .string ⟨#[]⟩, .bool false, .int .i64 0] 35))) := Lib.hid ((Below.refl _ w).alloc (Nat.le_refl _) _)
  have HR1 : Hid (Lies (w.alloc (.cells #[.int .i64 0, .int .i64 0, .int .i64 0, .string ⟨#[]⟩, .bool false, .int .i64 0] 35)) w.heap.size 35 #[.int .i64 0, .int .i64 0, .int .i64 0, .string ⟨#[]⟩, .bool false, .int .i64 0]) := Lib.hid (Lies.new w _ _)
  have HI := Lib.hid (hI.next ((Below.refl _ w).alloc (Nat.le_refl _) (.cells #[.int .i64 0, .int .i64 0, .int .i64 0, .string ⟨#[]⟩, .bool false, .int .i64 0] 35)))
  have CM := Lib.hid (many_any t n B _ HI.out)
  have CC := Lib.hid (fun W => text_any (t.drop (t.length - min n t.length)) W (by simp; omega))
  have hm : min n t.length ≤ t.length := Nat.min_le_right _ _
  generalize min n t.length = m at *
  have hmi : (0 : Int) ≤ (m : Int) ∧ (m : Int) ≤ (t.length : Int) := by omega
  have hsub : (t.length : Int) - (m : Int) = ((t.length - m : Nat) : Int) := by omega
  clear hI
  go_enter Tryz.func34, Tryz.ntmps34
  go_upto_region 1 with fail
  generalize w.alloc (.cells #[.int .i64 0, .int .i64 0, .int .i64 0, .string ⟨#[]⟩, .bool false, .int .i64 0] 35) = W1 at *
  generalize hqe : w.heap.size = q at *
  have HQ := Lib.hid hqe
  clear hqe
  have c0 : W1.cell? ⟨B, 0, none⟩ = some (.string ⟨t.toArray⟩) := HI.out.cell 0 (by simp) 0 (by decide)
  go_wp2_with fail
  refine CM.out.mono ?_
  rintro x w2 ⟨rfl, rfl⟩
  go_wp2_with fail
  refine (CC.out _).mono ?_
  rintro x w9 ⟨rfl, hb9⟩
  have HR9 := Lib.hid (HR1.out.next hb9)
  have HB9 := Lib.hid (HB1.out.trans (hb9.mono (Nat.le_of_lt HR1.out.lt)))
  clear hb9 HR1 HB1 
  obtain ⟨r, hr⟩ : ∃ r, (vText (t.drop (t.length - m))) = r := ⟨_, rfl⟩
  rw [hr]
  obtain ⟨rk, rm, re, rt, rtr, rf⟩ := r
  have x0 := HR9.out.cell 0
  have x1 := HR9.out.cell 1
  have x2 := HR9.out.cell 2
  have x3 := HR9.out.cell 3
  have x4 := HR9.out.cell 4
  have x5 := HR9.out.cell 5
  have f0 := HR9.out.frozen 0
  have f1 := HR9.out.frozen 1
  have f2 := HR9.out.frozen 2
  have f3 := HR9.out.frozen 3
  have f4 := HR9.out.frozen 4
  have f5 := HR9.out.frozen 5
  simp only [List.getElem?_toArray, List.getElem?_cons_zero, List.getElem?_cons_succ] at x0 x1 x2 x3 x4 x5
  dsimp only [valV, valC]
  go_wp2_with fail
  refine bodyPost_ret (v := .agg #[.int .i64 rk, .int .i64 rm, .int .i64 re, .string ⟨rt.toArray⟩, .bool rtr, .int .i64 rf]) (by simp [results, Tryz.results34, go_sem, x0, x1, x2, x3, x4, x5]) rfl ?_
  refine ⟨by first | rfl | rw [hr], ?_⟩
  rw [HQ.out]
  exact st6_below (i := 0) (x := ⟨rk, rm, re, rt, rtr, rf⟩) HB9.out (Nat.le_refl _)
def pMid (t : Bs) (a k : Nat) : Val := if a < 1 then vBad 2 else if t.length < a then vText [] else vText ((t.drop (a - 1)).take (min k (t.length - (a - 1))))
set_option maxRecDepth 100000 in
set_option maxHeartbeats 3200000 in
theorem fmid_any (t : Bs) (a k : Nat) (ht : t.length ≤ 1000000) (B : Nat) (w : World) (hI : IBk w B [tIt t, nIt a, nIt k]) :
    Calls Tryz.prog 35 #[.slice (some ⟨B, 0, none⟩) 3 3] w fun x w' => x = .returned (valV (pMid t a k)) ∧ Below w.heap.size w w' := by
  have HB1 : Hid (Below w.heap.size w (w.alloc (.cells #[.int .i64 0, .int .i64 0, .int .i64 0, .string ⟨#[]⟩, .bool false, .int .i64 0] 35))) := Lib.hid ((Below.refl _ w).alloc (Nat.le_refl _) _)
  have HR1 : Hid (Lies (w.alloc (.cells #[.int .i64 0, .int .i64 0, .int .i64 0, .string ⟨#[]⟩, .bool false, .int .i64 0] 35)) w.heap.size 35 #[.int .i64 0, .int .i64 0, .int .i64 0, .string ⟨#[]⟩, .bool false, .int .i64 0]) := Lib.hid (Lies.new w _ _)
  have HI := Lib.hid (hI.next ((Below.refl _ w).alloc (Nat.le_refl _) (.cells #[.int .i64 0, .int .i64 0, .int .i64 0, .string ⟨#[]⟩, .bool false, .int .i64 0] 35)))
  have CB := Lib.hid (fun W => bad_any 2 W)
  have CE := Lib.hid (fun W => text_any [] W (by simp))
  have CC := Lib.hid (fun W => text_any ((t.drop (a - 1)).take (min k (t.length - (a - 1)))) W (by simp; omega))
  have hk0 : ¬ (k : Int) < 0 := by omega
  unfold pMid
  clear hI
  go_enter Tryz.func35, Tryz.ntmps35
  go_upto_region 1 with fail
  generalize w.alloc (.cells #[.int .i64 0, .int .i64 0, .int .i64 0, .string ⟨#[]⟩, .bool false, .int .i64 0] 35) = W1 at *
  generalize hqe : w.heap.size = q at *
  have HQ := Lib.hid hqe
  clear hqe
  have c0 : W1.cell? ⟨B, 0, none⟩ = some (.string ⟨t.toArray⟩) := HI.out.cell 0 (by simp) 0 (by decide)
  have c1 : W1.cell? ⟨B, 5, none⟩ = some (.int .i64 (a : Nat)) := HI.out.cell 1 (by simp) 1 (by decide)
  have c2 : W1.cell? ⟨B, 9, none⟩ = some (.int .i64 (k : Nat)) := HI.out.cell 2 (by simp) 1 (by decide)
  have HB2 : Hid (Below q w W1.drew) := Lib.hid HB1.out.drew
  have HR2 : Hid (Lies W1.drew q 35 #[.int .i64 0, .int .i64 0, .int .i64 0, .string ⟨#[]⟩, .bool false, .int .i64 0]) := Lib.hid HR1.out
  by_cases h1 : a < 1
  · have h1' : (a : Int) < 1 := by omega
    clear CE CC
    go_upto_region 1 with fail
    go_region
    go_wp2_with fail
    refine (CB.out _).mono ?_
    rintro x w9 ⟨rfl, hb9⟩
    have HR9 := Lib.hid (HR2.out.next hb9)
    have HB9 := Lib.hid (HB2.out.trans (hb9.mono (Nat.le_of_lt HR2.out.lt)))
    clear hb9 HR2 HB2 
    obtain ⟨r, hr⟩ : ∃ r, (vBad 2) = r := ⟨_, rfl⟩
    rw [hr]
    obtain ⟨rk, rm, re, rt, rtr, rf⟩ := r
    have x0 := HR9.out.cell 0
    have x1 := HR9.out.cell 1
    have x2 := HR9.out.cell 2
    have x3 := HR9.out.cell 3
    have x4 := HR9.out.cell 4
    have x5 := HR9.out.cell 5
    have f0 := HR9.out.frozen 0
    have f1 := HR9.out.frozen 1
    have f2 := HR9.out.frozen 2
    have f3 := HR9.out.frozen 3
    have f4 := HR9.out.frozen 4
    have f5 := HR9.out.frozen 5
    simp only [List.getElem?_toArray, List.getElem?_cons_zero, List.getElem?_cons_succ] at x0 x1 x2 x3 x4 x5
    dsimp only [valV, valC]
    go_wp2_with fail
    refine bodyPost_ret (v := .agg #[.int .i64 rk, .int .i64 rm, .int .i64 re, .string ⟨rt.toArray⟩, .bool rtr, .int .i64 rf]) (by simp [results, Tryz.results35, go_sem, x0, x1, x2, x3, x4, x5]) rfl ?_
    refine ⟨by first | rfl | rw [hr], ?_⟩
    rw [HQ.out]
    exact st6_below (i := 0) (x := ⟨rk, rm, re, rt, rtr, rf⟩) HB9.out (Nat.le_refl _)
  · have h1' : ¬ (a : Int) < 1 := by omega
    by_cases h2 : t.length < a
    · have h2' : (t.length : Int) < (a : Int) := by omega
      clear CB CC
      go_upto_region 1 with fail
      go_region
      go_wp2_with fail
      refine (CE.out _).mono ?_
      rintro x w9 ⟨rfl, hb9⟩
      have HR9 := Lib.hid (HR2.out.next hb9)
      have HB9 := Lib.hid (HB2.out.trans (hb9.mono (Nat.le_of_lt HR2.out.lt)))
      clear hb9 HR2 HB2 
      obtain ⟨r, hr⟩ : ∃ r, (vText []) = r := ⟨_, rfl⟩
      rw [hr]
      obtain ⟨rk, rm, re, rt, rtr, rf⟩ := r
      have x0 := HR9.out.cell 0
      have x1 := HR9.out.cell 1
      have x2 := HR9.out.cell 2
      have x3 := HR9.out.cell 3
      have x4 := HR9.out.cell 4
      have x5 := HR9.out.cell 5
      have f0 := HR9.out.frozen 0
      have f1 := HR9.out.frozen 1
      have f2 := HR9.out.frozen 2
      have f3 := HR9.out.frozen 3
      have f4 := HR9.out.frozen 4
      have f5 := HR9.out.frozen 5
      simp only [List.getElem?_toArray, List.getElem?_cons_zero, List.getElem?_cons_succ] at x0 x1 x2 x3 x4 x5
      dsimp only [valV, valC]
      go_wp2_with fail
      refine bodyPost_ret (v := .agg #[.int .i64 rk, .int .i64 rm, .int .i64 re, .string ⟨rt.toArray⟩, .bool rtr, .int .i64 rf]) (by simp [results, Tryz.results35, go_sem, x0, x1, x2, x3, x4, x5]) rfl ?_
      refine ⟨by first | rfl | rw [hr], ?_⟩
      rw [HQ.out]
      exact st6_below (i := 0) (x := ⟨rk, rm, re, rt, rtr, rf⟩) HB9.out (Nat.le_refl _)
    · have h2' : ¬ (t.length : Int) < (a : Int) := by omega
      have ha : (0 : Int) ≤ (a : Int) - 1 ∧ (a : Int) - 1 ≤ (t.length : Int) := by omega
      have hai : (a : Int) - 1 = ((a - 1 : Nat) : Int) := by omega
      have hdl : (t.drop (a - 1)).length = t.length - (a - 1) := List.length_drop ..
      clear CB CE
      go_upto_region 1 with fail
      go_region
      have hat : ((a : Int) - 1).toNat = a - 1 := by omega
      go_upto_region 7 with fail
      have hmn : (min (k : Int) ((t.length - (a - 1) : Nat) : Int)).toNat = min k (t.length - (a - 1)) := by omega
      go_wp2_with fail
      refine (CC.out _).mono ?_
      rintro x w9 ⟨rfl, hb9⟩
      have HR9 := Lib.hid (HR2.out.next hb9)
      have HB9 := Lib.hid (HB2.out.trans (hb9.mono (Nat.le_of_lt HR2.out.lt)))
      clear hb9 HR2 HB2 
      obtain ⟨r, hr⟩ : ∃ r, (vText ((t.drop (a - 1)).take (min k (t.length - (a - 1))))) = r := ⟨_, rfl⟩
      rw [hr]
      obtain ⟨rk, rm, re, rt, rtr, rf⟩ := r
      have x0 := HR9.out.cell 0
      have x1 := HR9.out.cell 1
      have x2 := HR9.out.cell 2
      have x3 := HR9.out.cell 3
      have x4 := HR9.out.cell 4
      have x5 := HR9.out.cell 5
      have f0 := HR9.out.frozen 0
      have f1 := HR9.out.frozen 1
      have f2 := HR9.out.frozen 2
      have f3 := HR9.out.frozen 3
      have f4 := HR9.out.frozen 4
      have f5 := HR9.out.frozen 5
      simp only [List.getElem?_toArray, List.getElem?_cons_zero, List.getElem?_cons_succ] at x0 x1 x2 x3 x4 x5
      dsimp only [valV, valC]
      go_wp2_with fail
      refine bodyPost_ret (v := .agg #[.int .i64 rk, .int .i64 rm, .int .i64 re, .string ⟨rt.toArray⟩, .bool rtr, .int .i64 rf]) (by simp [results, Tryz.results35, go_sem, x0, x1, x2, x3, x4, x5]) rfl ?_
      refine ⟨by first | rfl | rw [hr], ?_⟩
      rw [HQ.out]
      exact st6_below (i := 0) (x := ⟨rk, rm, re, rt, rtr, rf⟩) HB9.out (Nat.le_refl _)
set_option maxRecDepth 100000 in
set_option maxHeartbeats 3200000 in
theorem fexact_any (a b : Bs) (B : Nat) (w : World) (hI : IBk w B [tIt a, tIt b]) :
    Calls Tryz.prog 42 #[.slice (some ⟨B, 0, none⟩) 2 2] w fun x w' => x = .returned (valV (vTruth (a == b))) ∧ Below w.heap.size w w' := by
  have HB1 : Hid (Below w.heap.size w (w.alloc (.cells #[.int .i64 0, .int .i64 0, .int .i64 0, .string ⟨#[]⟩, .bool false, .int .i64 0] 35))) := Lib.hid ((Below.refl _ w).alloc (Nat.le_refl _) _)
  have HR1 : Hid (Lies (w.alloc (.cells #[.int .i64 0, .int .i64 0, .int .i64 0, .string ⟨#[]⟩, .bool false, .int .i64 0] 35)) w.heap.size 35 #[.int .i64 0, .int .i64 0, .int .i64 0, .string ⟨#[]⟩, .bool false, .int .i64 0]) := Lib.hid (Lies.new w _ _)
  have HI := Lib.hid (hI.next ((Below.refl _ w).alloc (Nat.le_refl _) (.cells #[.int .i64 0, .int .i64 0, .int .i64 0, .string ⟨#[]⟩, .bool false, .int .i64 0] 35)))
  have CC := Lib.hid (fun W => truth_any (a == b) W)
  clear hI
  go_enter Tryz.func42, Tryz.ntmps42
  go_upto_region 1 with fail
  generalize w.alloc (.cells #[.int .i64 0, .int .i64 0, .int .i64 0, .string ⟨#[]⟩, .bool false, .int .i64 0] 35) = W1 at *
  generalize hqe : w.heap.size = q at *
  have HQ := Lib.hid hqe
  clear hqe
  have c0 : W1.cell? ⟨B, 0, none⟩ = some (.string ⟨a.toArray⟩) := HI.out.cell 0 (by simp) 0 (by decide)
  have c1 : W1.cell? ⟨B, 4, none⟩ = some (.string ⟨b.toArray⟩) := HI.out.cell 1 (by simp) 0 (by decide)
  have HB2 : Hid (Below q w W1.drew) := Lib.hid HB1.out.drew
  have HR2 : Hid (Lies W1.drew q 35 #[.int .i64 0, .int .i64 0, .int .i64 0, .string ⟨#[]⟩, .bool false, .int .i64 0]) := Lib.hid HR1.out
  go_upto_region 1 with fail
  go_still_tail 9, (by kernel_rfl)
  change wpList _ _ _ _ _ W1.drew
  generalize W1.drew = W2 at *
  go_wp2_with fail
  refine (CC.out _).mono ?_
  rintro x w9 ⟨rfl, hb9⟩
  have HR9 := Lib.hid (HR2.out.next hb9)
  have HB9 := Lib.hid (HB2.out.trans (hb9.mono (Nat.le_of_lt HR2.out.lt)))
  clear hb9 HR2 HB2 
  obtain ⟨r, hr⟩ : ∃ r, (vTruth (a == b)) = r := ⟨_, rfl⟩
  rw [hr]
  obtain ⟨rk, rm, re, rt, rtr, rf⟩ := r
  have x0 := HR9.out.cell 0
  have x1 := HR9.out.cell 1
  have x2 := HR9.out.cell 2
  have x3 := HR9.out.cell 3
  have x4 := HR9.out.cell 4
  have x5 := HR9.out.cell 5
  have f0 := HR9.out.frozen 0
  have f1 := HR9.out.frozen 1
  have f2 := HR9.out.frozen 2
  have f3 := HR9.out.frozen 3
  have f4 := HR9.out.frozen 4
  have f5 := HR9.out.frozen 5
  simp only [List.getElem?_toArray, List.getElem?_cons_zero, List.getElem?_cons_succ] at x0 x1 x2 x3 x4 x5
  dsimp only [valV, valC]
  go_wp2_with fail
  refine bodyPost_ret (v := .agg #[.int .i64 rk, .int .i64 rm, .int .i64 re, .string ⟨rt.toArray⟩, .bool rtr, .int .i64 rf]) (by simp [results, Tryz.results42, go_sem, x0, x1, x2, x3, x4, x5]) rfl ?_
  refine ⟨by first | rfl | rw [hr], ?_⟩
  rw [HQ.out]
  exact st6_below (i := 0) (x := ⟨rk, rm, re, rt, rtr, rf⟩) HB9.out (Nat.le_refl _)
def pFind (p t : Bs) : Val := if Lib.index t p < 0 then vBad 2 else pCount (1 + (Lib.index t p).toNat)
set_option maxRecDepth 100000 in
set_option maxHeartbeats 3200000 in
theorem ffind_any (p t : Bs) (ht : t.length ≤ 999999) (B : Nat) (w : World) (hP : PowTab w) (hM : MaxVar w) (hI : IBk w B [tIt p, tIt t]) :
    Calls Tryz.prog 39 #[.slice (some ⟨B, 0, none⟩) 2 2] w fun x w' => x = .returned (valV (pFind p t)) ∧ Below w.heap.size w w' := by
  have HB1 : Hid (Below w.heap.size w (w.alloc (.cells #[.int .i64 0, .int .i64 0, .int .i64 0, .string ⟨#[]⟩, .bool false, .int .i64 0] 35))) := Lib.hid ((Below.refl _ w).alloc (Nat.le_refl _) _)
  have HR1 : Hid (Lies (w.alloc (.cells #[.int .i64 0, .int .i64 0, .int .i64 0, .string ⟨#[]⟩, .bool false, .int .i64 0] 35)) w.heap.size 35 #[.int .i64 0, .int .i64 0, .int .i64 0, .string ⟨#[]⟩, .bool false, .int .i64 0]) := Lib.hid (Lies.new w _ _)
  have HI := Lib.hid (hI.next ((Below.refl _ w).alloc (Nat.le_refl _) (.cells #[.int .i64 0, .int .i64 0, .int .i64 0, .string ⟨#[]⟩, .bool false, .int .i64 0] 35)))
  have CB := Lib.hid (fun W => bad_any 2 W)
  obtain ⟨m, hm⟩ := hM
  have CI := Lib.hid (fun W (h : Below w.heap.size w W) => Tryz.strings_Index ⟨t.toArray⟩ ⟨p.toArray⟩ m W (by simp [ByteArray.size]; omega) ((h.cell (p := ⟨_, 0, none⟩) (cell_lt hm)).trans hm))
  have CC := Lib.hid (fun W (h : Below w.heap.size w W) n hn => fcount_any n W hn (hP.next h))
  clear hP hm
  have hix : Lib.index t p < 0 ∨ ∃ i : Nat, Lib.index t p = i ∧ i ≤ t.length := by
    rcases Lib.index_spec t p with ⟨h, _⟩ | ⟨i, h, h2, _⟩
    · exact .inl (by omega)
    · exact .inr ⟨i, h, h2⟩
  dsimp only at CI
  unfold pFind
  generalize Lib.index t p = ix at *
  clear hI
  go_enter Tryz.func39, Tryz.ntmps39
  go_upto_region 1 with fail
  generalize w.alloc (.cells #[.int .i64 0, .int .i64 0, .int .i64 0, .string ⟨#[]⟩, .bool false, .int .i64 0] 35) = W1 at *
  generalize hqe : w.heap.size = q at *
  have HQ := Lib.hid hqe
  clear hqe
  have c0 : W1.cell? ⟨B, 0, none⟩ = some (.string ⟨p.toArray⟩) := HI.out.cell 0 (by simp) 0 (by decide)
  have c1 : W1.cell? ⟨B, 4, none⟩ = some (.string ⟨t.toArray⟩) := HI.out.cell 1 (by simp) 0 (by decide)
  have HB2 : Hid (Below q w W1.drew) := Lib.hid HB1.out.drew
  have HR2 : Hid (Lies W1.drew q 35 #[.int .i64 0, .int .i64 0, .int .i64 0, .string ⟨#[]⟩, .bool false, .int .i64 0]) := Lib.hid HR1.out
  go_upto_region 1 with fail
  go_region
  go_wp2_with fail
  refine (CI.out _ HB1.out.drew).mono ?_
  rintro x w2 ⟨rfl, rfl⟩
  rcases hix with hneg | ⟨i, rfl, hi⟩
  · clear CC CI
    go_wp2_with fail
    refine (CB.out _).mono ?_
    rintro x w9 ⟨rfl, hb9⟩
    have HR9 := Lib.hid (HR2.out.next hb9)
    have HB9 := Lib.hid (HB2.out.trans (hb9.mono (Nat.le_of_lt HR2.out.lt)))
    clear hb9 HR2 HB2 
    obtain ⟨r, hr⟩ : ∃ r, (vBad 2) = r := ⟨_, rfl⟩
    rw [hr]
    obtain ⟨rk, rm, re, rt, rtr, rf⟩ := r
    have x0 := HR9.out.cell 0
    have x1 := HR9.out.cell 1
    have x2 := HR9.out.cell 2
    have x3 := HR9.out.cell 3
    have x4 := HR9.out.cell 4
    have x5 := HR9.out.cell 5
    have f0 := HR9.out.frozen 0
    have f1 := HR9.out.frozen 1
    have f2 := HR9.out.frozen 2
    have f3 := HR9.out.frozen 3
    have f4 := HR9.out.frozen 4
    have f5 := HR9.out.frozen 5
    simp only [List.getElem?_toArray, List.getElem?_cons_zero, List.getElem?_cons_succ] at x0 x1 x2 x3 x4 x5
    dsimp only [valV, valC]
    go_wp2_with fail
    refine bodyPost_ret (v := .agg #[.int .i64 rk, .int .i64 rm, .int .i64 re, .string ⟨rt.toArray⟩, .bool rtr, .int .i64 rf]) (by simp [results, Tryz.results39, go_sem, x0, x1, x2, x3, x4, x5]) rfl ?_
    refine ⟨by first | rfl | rw [hr], ?_⟩
    rw [HQ.out]
    exact st6_below (i := 0) (x := ⟨rk, rm, re, rt, rtr, rf⟩) HB9.out (Nat.le_refl _)
  · have hii : (1 : Int) + (i : Int) = ((1 + i : Nat) : Int) := by omega
    have hi0 : ¬ (i : Int) < 0 := by omega
    have CC2 := Lib.hid (CC.out W1.drew HB1.out.drew (1 + i) (by omega))
    rw [← hii] at CC2
    clear CB CI CC hii
    go_wp2_with fail
    refine CC2.out.mono ?_
    rintro x w9 ⟨rfl, hb9⟩
    have HR9 := Lib.hid (HR2.out.next hb9)
    have HB9 := Lib.hid (HB2.out.trans (hb9.mono (Nat.le_of_lt HR2.out.lt)))
    clear hb9 HR2 HB2 
    obtain ⟨r, hr⟩ : ∃ r, (pCount (1 + i)) = r := ⟨_, rfl⟩
    rw [hr]
    obtain ⟨rk, rm, re, rt, rtr, rf⟩ := r
    have x0 := HR9.out.cell 0
    have x1 := HR9.out.cell 1
    have x2 := HR9.out.cell 2
    have x3 := HR9.out.cell 3
    have x4 := HR9.out.cell 4
    have x5 := HR9.out.cell 5
    have f0 := HR9.out.frozen 0
    have f1 := HR9.out.frozen 1
    have f2 := HR9.out.frozen 2
    have f3 := HR9.out.frozen 3
    have f4 := HR9.out.frozen 4
    have f5 := HR9.out.frozen 5
    simp only [List.getElem?_toArray, List.getElem?_cons_zero, List.getElem?_cons_succ] at x0 x1 x2 x3 x4 x5
    dsimp only [valV, valC]
    go_wp2_with fail
    refine bodyPost_ret (v := .agg #[.int .i64 rk, .int .i64 rm, .int .i64 re, .string ⟨rt.toArray⟩, .bool rtr, .int .i64 rf]) (by simp [results, Tryz.results39, go_sem, x0, x1, x2, x3, x4, x5]) rfl ?_
    refine ⟨by first | rfl | rw [hr] | rw [if_neg (by omega), Int.toNat_natCast, hr] | rw [Int.toNat_natCast, hr], ?_⟩
    rw [HQ.out]
    exact st6_below (i := 0) (x := ⟨rk, rm, re, rt, rtr, rf⟩) HB9.out (Nat.le_refl _)
theorem digit_right (k : Nat) (h : k ≤ 9) : pRight (k : Int) 0 = true := by
  rcases (by omega : k = 0 ∨ k = 1 ∨ k = 2 ∨ k = 3 ∨ k = 4 ∨ k = 5 ∨ k = 6 ∨ k = 7 ∨ k = 8 ∨ k = 9) with rfl | rfl | rfl | rfl | rfl | rfl | rfl | rfl | rfl | rfl <;> decide
set_option maxRecDepth 100000 in
set_option maxHeartbeats 3200000 in
theorem floor_any (k : Nat) (h : k ≤ 9) (w : World) :
    Calls Tryz.prog 68 #[numV k 0] w fun x w' => x = .returned (numV k 0) ∧ Below w.heap.size w w' := by
  have CR := Lib.hid (fun W => right_any k 0 W (by omega) (by omega))
  rw [digit_right k h] at CR
  obtain ⟨W2, hW2⟩ : ∃ W2, W2 = (w.alloc (.cells #[.int .i64 k, .int .i64 0] 33)).alloc (.cells #[.int .i64 0, .int .i64 0] 33) := ⟨_, rfl⟩
  have HB2 : Hid (Below w.heap.size w W2) := Lib.hid (by rw [hW2]; exact ((Below.refl _ w).alloc (Nat.le_refl _) _).alloc (by rw [World.size_alloc]; omega) _)
  have HL1 : Hid (Lies W2 w.heap.size 33 #[.int .i64 k, .int .i64 0]) := Lib.hid (by rw [hW2]; exact (Lies.new w _ _).alloc _)
  have HL2 : Hid (Lies W2 (w.heap.size + 1) 33 #[.int .i64 0, .int .i64 0]) := Lib.hid (by
    rw [hW2]
    have h := Lies.new (w.alloc (.cells #[.int .i64 k, .int .i64 0] 33)) 33 #[.int .i64 0, .int .i64 0]
    rw [World.size_alloc] at h
    exact h)
  have HW := Lib.hid hW2
  clear hW2
  have y0 := HL1.out.cell 0
  have y1 := HL1.out.cell 1
  simp only [List.getElem?_toArray, List.getElem?_cons_zero, List.getElem?_cons_succ] at y0 y1
  unfold numV at CR ⊢
  go_enter Tryz.func68, Tryz.ntmps68
  go_upto_region 1 with fail
  rw [← HW.out]
  generalize hqe : w.heap.size = q at *
  have HQ := Lib.hid hqe
  clear hqe
  go_wp2_with fail
  refine (CR.out _).mono ?_
  rintro x w3 ⟨rfl, hb⟩
  have HB3 := Lib.hid (HB2.out.trans (hb.mono (Nat.le_of_lt HL1.out.lt)))
  have HL3 := Lib.hid (HL1.out.next hb)
  have HL4 := Lib.hid (HL2.out.next hb)
  have x0 := HL3.out.cell 0
  have x1 := HL3.out.cell 1
  have z0 := HL4.out.cell 0
  have z1 := HL4.out.cell 1
  have f0 := HL4.out.frozen 0
  have f1 := HL4.out.frozen 1
  simp only [List.getElem?_toArray, List.getElem?_cons_zero, List.getElem?_cons_succ] at x0 x1 z0 z1
  clear y0 y1 hb CR HB2 HL1 HL2
  go_wp2_with fail
  refine bodyPost_ret (v := .agg #[.int .i64 k, .int .i64 0]) (by simp [results, Tryz.results68, go_sem, z0, z1]) rfl ?_
  refine ⟨rfl, ?_⟩
  rw [HQ.out]
  exact below_set (below_set HB3.out (Nat.le_succ _) 0 _) (Nat.le_succ _) 1 _
set_option maxRecDepth 100000 in
set_option maxHeartbeats 3200000 in
theorem int_any (k : Nat) (h : k ≤ 9) (w : World) :
    Calls Tryz.prog 67 #[numV k 0] w fun x w' => x = .returned (.tuple #[.int .i64 k, .bool true]) ∧ Below w.heap.size w w' := by
  have CR := Lib.hid (fun W => right_any k 0 W (by omega) (by omega))
  rw [digit_right k h] at CR
  have HB2 : Hid (Below w.heap.size w (w.alloc (.cells #[.int .i64 k, .int .i64 0] 33))) := Lib.hid ((Below.refl _ w).alloc (Nat.le_refl _) _)
  have HL1 : Hid (Lies (w.alloc (.cells #[.int .i64 k, .int .i64 0] 33)) w.heap.size 33 #[.int .i64 k, .int .i64 0]) := Lib.hid (Lies.new w _ _)
  have y0 := HL1.out.cell 0
  have y1 := HL1.out.cell 1
  simp only [List.getElem?_toArray, List.getElem?_cons_zero, List.getElem?_cons_succ] at y0 y1
  unfold numV at CR ⊢
  go_enter Tryz.func67, Tryz.ntmps67
  go_upto_region 1 with fail
  generalize w.alloc (.cells #[.int .i64 k, .int .i64 0] 33) = W2 at *
  generalize hqe : w.heap.size = q at *
  have HQ := Lib.hid hqe
  clear hqe
  go_wp2_with fail
  refine (CR.out _).mono ?_
  rintro x w3 ⟨rfl, hb⟩
  have HB3 := Lib.hid (HB2.out.trans (hb.mono (Nat.le_of_lt HL1.out.lt)))
  have HL3 := Lib.hid (HL1.out.next hb)
  have x0 := HL3.out.cell 0
  have x1 := HL3.out.cell 1
  simp only [List.getElem?_toArray, List.getElem?_cons_zero, List.getElem?_cons_succ] at x0 x1
  clear y0 y1 hb CR HB2 HL1
  go_wp2_with fail
  refine wp_loop_rounds 1 ?_
  rw [rounds_succ]
  go_wp2_with fail
  refine bodyPost_ret (v := .tuple #[.int .i64 k, .bool true]) (by simp [results, Tryz.results67, go_sem]) rfl ?_
  refine ⟨rfl, ?_⟩
  rw [HQ.out]
  exact HB3.out
/-- a text as a value; a digit -/
abbrev tV (t : Bs) : Val := ⟨2, 0, 0, t, false, 0⟩
abbrev dV (k : Nat) : Val := ⟨1, k, 0, [], false, 0⟩
theorem tV_text (t : Bs) : vToText (tV t) = (t, 0) := rfl
theorem ask_text (t : Bs) (w : World) (hP : PowTab w) : Calls Tryz.prog 31 #[valV (tV t)] w fun e w' => e = .returned (.tuple #[itV ⟨t, 0, 0, 0⟩, .int .i64 0]) ∧ Below w.heap.size w w' :=
  ftext_text (tV t) w hP (by simp) (by simp) (fun h => absurd h (by simp))
set_option maxRecDepth 100000 in
set_option maxHeartbeats 3200000 in
theorem ask_whole (k : Nat) (h : k ≤ 9) (w : World) : Calls Tryz.prog 33 #[valV (dV k)] w fun e w' => e = .returned (.tuple #[itV ⟨[], k, 0, 0⟩, .int .i64 0]) ∧ Below w.heap.size w w' := by
  obtain ⟨W2, hW2⟩ : ∃ W2, W2 = (w.alloc (.cells (valC (dV k)) 35)).alloc (.cells #[.string ⟨#[]⟩, .int .i64 0, .int .i64 0, .int .i64 0] 84) := ⟨_, rfl⟩
  have HB2 : Hid (Below w.heap.size w W2) := Lib.hid (by rw [hW2]; exact ((Below.refl _ w).alloc (Nat.le_refl _) _).alloc (by rw [World.size_alloc]; omega) _)
  have HL1 : Hid (Lies W2 w.heap.size 35 (valC (dV k))) := Lib.hid (by rw [hW2]; exact (Lies.new w _ _).alloc _)
  have HL2 : Hid (Lies W2 (w.heap.size + 1) 84 #[.string ⟨#[]⟩, .int .i64 0, .int .i64 0, .int .i64 0]) := Lib.hid (by
    rw [hW2]
    have h := Lies.new (w.alloc (.cells (valC (dV k)) 35)) 84 #[.string ⟨#[]⟩, .int .i64 0, .int .i64 0, .int .i64 0]
    rw [World.size_alloc] at h
    exact h)
  have HW := Lib.hid hW2
  clear hW2
  have y0 := HL1.out.cell 0
  have y1 := HL1.out.cell 1
  have y2 := HL1.out.cell 2
  have y3 := HL1.out.cell 3
  have y4 := HL1.out.cell 4
  have y5 := HL1.out.cell 5
  simp only [List.getElem?_toArray, List.getElem?_cons_zero, List.getElem?_cons_succ] at y0 y1 y2 y3 y4 y5
  have CT := Lib.hid (fun W => toNum_any (dV k) W (by simp))
  have CF := Lib.hid (fun W => floor_any k h W)
  have CN := Lib.hid (fun W => int_any k h W)
  have e : vToNum (dV k) = (((k : Int), 0), 0) := rfl
  rw [e] at CT
  unfold numV at CT CF CN
  dsimp only [valV, valC, dV, itV, itemV] at CT HW ⊢
  clear e
  go_enter Tryz.func33, Tryz.ntmps33
  go_upto_region 1 with fail
  rw [← HW.out]
  generalize hqe : w.heap.size = q at *
  have HQ := Lib.hid hqe
  clear hqe
  go_wp2_with fail
  refine (CT.out _).mono ?_
  rintro x w3 ⟨rfl, hb⟩
  have hq2 : q + 1 < W2.heap.size := HL2.out.lt
  have HB3 := Lib.hid (HB2.out.trans (hb.mono (by omega)))
  have HL3 := Lib.hid (HL2.out.next hb)
  have hq3 : q + 1 < w3.heap.size := HL3.out.lt
  clear hb HL1 HL2 HB2 CT y0 y1 y2 y3 y4 y5
  go_upto_region 2 with fail
  have HB4 := Lib.hid (HB3.out.alloc (by omega) (.cells #[.int .i64 k, .int .i64 0] 33))
  have HL4 := Lib.hid (HL3.out.alloc (.cells #[.int .i64 k, .int .i64 0] 33))
  have HN4 := Lib.hid (Lies.new w3 33 #[.int .i64 k, .int .i64 0])
  generalize w3.alloc (.cells #[.int .i64 k, .int .i64 0] 33) = W4 at *
  generalize w3.heap.size = g at *
  have n0 := HN4.out.cell 0
  have n1 := HN4.out.cell 1
  simp only [List.getElem?_toArray, List.getElem?_cons_zero, List.getElem?_cons_succ] at n0 n1
  clear HB3 HL3
  have hq4 : q + 1 < W4.heap.size := HL4.out.lt
  go_wp2_with fail
  refine (CF.out _).mono ?_
  rintro x w5 ⟨rfl, hb⟩
  have HB5 := Lib.hid (HB4.out.trans (hb.mono (by omega)))
  have HL5 := Lib.hid (HL4.out.next hb)
  have hq5 : q + 1 < w5.heap.size := HL5.out.lt
  clear hb HB4 HL4 n0 n1 CF
  go_wp2_with fail
  refine (CN.out _).mono ?_
  rintro x w6 ⟨rfl, hb⟩
  have HB6 := Lib.hid (HB5.out.trans (hb.mono (by omega)))
  have HL6 := Lib.hid (HL5.out.next hb)
  have z0 := HL6.out.cell 0
  have z1 := HL6.out.cell 1
  have z2 := HL6.out.cell 2
  have z3 := HL6.out.cell 3
  have f0 := HL6.out.frozen 0
  have f1 := HL6.out.frozen 1
  have f2 := HL6.out.frozen 2
  have f3 := HL6.out.frozen 3
  simp only [List.getElem?_toArray, List.getElem?_cons_zero, List.getElem?_cons_succ] at z0 z1 z2 z3
  clear hb HB5 HL5 CN
  go_wp2_with fail
  refine bodyPost_ret (v := .tuple #[.agg #[.string ⟨#[]⟩, .int .i64 k, .int .i64 0, .int .i64 0], .int .i64 0]) (by simp [results, Tryz.results33, go_sem, z0, z1, z2, z3]) rfl ?_
  refine ⟨rfl, ?_⟩
  rw [HQ.out]
  exact st4_below (i := 0) (x := ⟨[], k, 0, 0⟩) HB6.out (Nat.le_succ _)
end Go.Proofs.YtpdaloohgfnbhaaGreatDoor
