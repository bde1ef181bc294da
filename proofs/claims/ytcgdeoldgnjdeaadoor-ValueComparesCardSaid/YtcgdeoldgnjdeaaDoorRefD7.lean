/-
  counterpaneref01.Cmp, counterpaneref02.sign, Compare, Order: what they return.
-/
import Derived.Test.YtcgdeoldgnjdeaaDoorRefD3
import Derived.Test.YtcgdeoldgnjdeaaDoorPlainC
import Derived.Test.YtcgdeoldgnjdeaaDoorRefB3
import Derived.Test.YtcgdeoldgnjdeaaDoorVal10
namespace Go.Proofs.YtcgdeoldgnjdeaaDoor
open Go.RowKit

def minE (e1 e2 : Int) : Int := if e2 < e1 then e2 else e1
def gSum (m1 e1 m2 e2 : Int) : Bool × Nat := plusIs (decide (m1 < 0)) (decide (-m2 < 0)) (m1.natAbs * 10 ^ (e1 - minE e1 e2).toNat) (m2.natAbs * 10 ^ (e2 - minE e1 e2).toNat)
theorem cmpN_scale (a b : Int) (k : Nat) (hk : 0 < k) : cmpN (a * k) (b * k) = cmpN a b := by
  have hk' : (0 : Int) < (k : Int) := by omega
  rcases Int.lt_trichotomy a b with h | h | h
  · rw [cmpN_lt h, cmpN_lt (Int.mul_lt_mul_of_pos_right h hk')]
  · rw [h, cmpN_self, cmpN_self]
  · rw [cmpN_gt h, cmpN_gt (Int.mul_lt_mul_of_pos_right h hk')]
theorem vNum_scale (m e E : Int) (h1 : -40 ≤ E) (h2 : E ≤ e) : vNum m e = (if m < 0 then -((m.natAbs * 10 ^ (e - E).toNat : Nat) : Int) else ((m.natAbs * 10 ^ (e - E).toNat : Nat) : Int)) * ((10 ^ (E + 40).toNat : Nat) : Int) := by
  have hv : vN m.natAbs e = m.natAbs * 10 ^ (e - E).toNat * 10 ^ (E + 40).toNat := by
    unfold vN
    rw [Nat.mul_assoc, ← Nat.pow_add]
    congr 2
    omega
  unfold vNum
  rw [hv]
  split
  · rw [Int.natCast_mul, Int.neg_mul]
  · rw [Int.natCast_mul]
theorem cmp_plus (m1 e1 m2 e2 : Int) (h1 : pRight m1 e1 = true) (h2 : pRight m2 e2 = true) :
    (if (gSum m1 e1 m2 e2).2 = 0 then 0 else if (gSum m1 e1 m2 e2).1 then -1 else 1) = pCmp m1 e1 m2 e2 := by
  have b1 : -40 ≤ e1 := by
    by_cases z : m1 = 0
    · unfold pRight at h1; rw [if_pos z] at h1; simp at h1; omega
    · exact (pRight_of h1 z).2.2.1
  have b2 : -40 ≤ e2 := by
    by_cases z : m2 = 0
    · unfold pRight at h2; rw [if_pos z] at h2; simp at h2; omega
    · exact (pRight_of h2 z).2.2.1
  have hE1 : minE e1 e2 ≤ e1 := by unfold minE; split <;> omega
  have hE2 : minE e1 e2 ≤ e2 := by unfold minE; split <;> omega
  have hE3 : -40 ≤ minE e1 e2 := by unfold minE; split <;> omega
  rw [pCmp_eq m1 e1 m2 e2 h1 h2, vNum_scale m1 e1 _ hE3 hE1, vNum_scale m2 e2 _ hE3 hE2, cmpN_scale _ _ _ (Nat.pow_pos (by decide))]
  unfold gSum
  have hx : m1 ≠ 0 → 0 < m1.natAbs * 10 ^ (e1 - minE e1 e2).toNat := fun h => Nat.mul_pos (by omega) (Nat.pow_pos (by decide))
  have hy : m2 ≠ 0 → 0 < m2.natAbs * 10 ^ (e2 - minE e1 e2).toNat := fun h => Nat.mul_pos (by omega) (Nat.pow_pos (by decide))
  have hx0 : m1 = 0 → m1.natAbs * 10 ^ (e1 - minE e1 e2).toNat = 0 := fun h => by rw [h]; simp
  have hy0 : m2 = 0 → m2.natAbs * 10 ^ (e2 - minE e1 e2).toNat = 0 := fun h => by rw [h]; simp
  generalize m1.natAbs * 10 ^ (e1 - minE e1 e2).toNat = X at *
  generalize m2.natAbs * 10 ^ (e2 - minE e1 e2).toNat = Y at *
  have q1 : plusIs true true X Y = (true, X + Y) := if_pos rfl
  have q2 : plusIs false false X Y = (false, X + Y) := if_pos rfl
  by_cases c1 : m1 < 0 <;> by_cases c2 : -m2 < 0
  · have c3 : ¬ m2 < 0 := by omega
    have p1 := hx (by omega)
    have p2 := hy (by omega)
    rw [decide_eq_true c1, decide_eq_true c2, q1, if_pos c1, if_neg c3]
    show (if X + Y = 0 then (0 : Int) else -1) = _
    rw [if_neg (by omega), cmpN_lt (by omega)]
  · have p1 := hx (by omega)
    have hr : (if m2 < 0 then -(Y : Int) else (Y : Int)) = -(Y : Int) := by
      split
      · rfl
      · rw [hy0 (by omega)]; rfl
    rw [decide_eq_true c1, decide_eq_false c2, if_pos c1, hr]
    by_cases hlt : X < Y
    · have q3 : plusIs true false X Y = (false, Y - X) := by simp [plusIs, hlt]
      rw [q3]
      show (if Y - X = 0 then (0 : Int) else 1) = _
      rw [if_neg (by omega), cmpN_gt (by omega)]
    · have q3 : plusIs true false X Y = (true, X - Y) := by simp [plusIs, hlt]
      rw [q3]
      show (if X - Y = 0 then (0 : Int) else -1) = _
      by_cases he : X - Y = 0
      · rw [if_pos he, show X = Y by omega, cmpN_self]
      · rw [if_neg he, cmpN_lt (by omega)]
  · have p2 := hy (by omega)
    have c3 : ¬ m2 < 0 := by omega
    rw [decide_eq_false c1, decide_eq_true c2, if_neg c1, if_neg c3]
    by_cases hlt : X < Y
    · have q3 : plusIs false true X Y = (true, Y - X) := by simp [plusIs, hlt]
      rw [q3]
      show (if Y - X = 0 then (0 : Int) else -1) = _
      rw [if_neg (by omega), cmpN_lt (by omega)]
    · have q3 : plusIs false true X Y = (false, X - Y) := by simp [plusIs, hlt]
      rw [q3]
      show (if X - Y = 0 then (0 : Int) else 1) = _
      by_cases he : X - Y = 0
      · rw [if_pos he, show X = Y by omega, cmpN_self]
      · rw [if_neg he, cmpN_gt (by omega)]
  · have hr : (if m2 < 0 then -(Y : Int) else (Y : Int)) = -(Y : Int) := by
      split
      · rfl
      · rw [hy0 (by omega)]; rfl
    rw [decide_eq_false c1, decide_eq_false c2, q2, if_neg c1, hr]
    show (if X + Y = 0 then (0 : Int) else 1) = _
    by_cases he : X + Y = 0
    · rw [if_pos he, show X = 0 by omega, show Y = 0 by omega]
      rfl
    · rw [if_neg he, cmpN_gt (by omega)]
/-- Plus, of two numbers' exact values: the one and the other's opposite -/
theorem plus_val (m1 e1 m2 e2 : Int) (A B : Option Addr) (ca cb : Nat) (n1 n2 : Nat) (w : World) (hn1 : (dl m1.natAbs).length = n1) (hn2 : (dl (-m2).natAbs).length = n2) (hL : ISl w 0 A ca (dl m1.natAbs)) (hM : ISl w 0 B cb (dl (-m2).natAbs)) (hl1 : n1 ≤ 20) (hl2 : n2 ≤ 20)
    (a1 : -500 ≤ e1) (a2 : e1 ≤ 500) (b1 : -500 ≤ e2) (b2 : e2 ≤ 500) :
    Calls Tryd.prog 123 #[.agg #[.bool (decide (m1 < 0)), .slice A n1 ca, .int .i64 e1], .agg #[.bool (decide (-m2 < 0)), .slice B n2 cb, .int .i64 e2]] w fun x w' =>
      ∃ (C : Option Addr) (c n : Nat) (D : List Nat), x = .returned (.agg #[.bool (gSum m1 e1 m2 e2).1, .slice C n c, .int .i64 (minE e1 e2)]) ∧ D.length = n ∧ ISl w' 0 C c D ∧ Dig D ∧ natOf D = (gSum m1 e1 m2 e2).2 ∧ Below w.heap.size w w' := by
  subst hn1; subst hn2
  refine (plus_any (decide (m1 < 0)) (decide (-m2 < 0)) A B ca cb (dl m1.natAbs) (dl (-m2).natAbs) e1 e2 w hL hM (dl_dig _) (dl_dig _) (by omega) (by omega) a1 a2 b1 b2).mono ?_
  rintro x w' ⟨ng, C, c, D, e, rfl, hs, hd, -, he, hsp, hb⟩
  have he' : e = minE e1 e2 := he
  subst he'
  rw [dl_nat, dl_nat, Int.natAbs_neg] at hsp
  have h1 : ng = (gSum m1 e1 m2 e2).1 := congrArg Prod.fst hsp
  have h2 : natOf D = (gSum m1 e1 m2 e2).2 := congrArg Prod.snd hsp
  exact ⟨C, c, D.length, D, by rw [h1], rfl, hs, hd, h2, hb⟩
theorem strip_val (C : Option Addr) (c n : Nat) (D : List Nat) (V : Nat) (w : World) (hn : D.length = n) (hs : ISl w 0 C c D) (hd : Dig D) (hV : natOf D = V) :
    Calls Tryd.prog 122 #[.slice C n c] w fun e w' => ∃ (A' : Option Addr) (c' : Nat), e = .returned (.slice A' (dlen V) c') ∧ Below w.heap.size w w' := by
  subst hn
  refine (strip_any C c 0 D w hs).mono ?_
  rintro e w' ⟨A', c', rfl, -, rfl, -⟩
  exact ⟨A', c', by rw [← dlen_bare D hd, hV], Below.refl _ _⟩
theorem dec_field0 (b : Bool) (A : Option Addr) (n c : Nat) (e : Int) (W : World) : (Instr.field 124 (.agg #[.bool b, .slice A n c, .int .i64 e]) 0).run Tryd.prog W = .ok (.bool b) W := by kernel_rfl
/-- Of, as it is wanted here -/
theorem of_val (m e : Int) (w : World) (n : Nat) (hn : (dl m.natAbs).length = n) (h1 : -9223372036854775808 ≤ m) (h2 : m ≤ 9223372036854775807) :
    Calls Tryd.prog 117 #[numV m e] w fun x w' => ∃ (A : Option Addr) (c : Nat), x = .returned (.agg #[.bool (decide (m < 0)), .slice A n c, .int .i64 e]) ∧ ISl w' 0 A c (dl m.natAbs) ∧ Below w.heap.size w w' := by
  subst hn
  refine (rOf_any m e w h1 h2).mono ?_
  rintro x w' ⟨v, rfl, hO, hb⟩
  obtain ⟨A, c, rfl, hs⟩ := hO.isl
  exact ⟨A, c, rfl, hs, hb⟩
set_option maxRecDepth 100000 in
set_option maxHeartbeats 12800000 in
theorem rCmp_right (m1 e1 m2 e2 : Int) (w : World) (b1 : -9223372036854775808 ≤ m1) (b2 : m1 ≤ 9223372036854775807) (b3 : -9223372036854775808 ≤ m2) (b4 : m2 ≤ 9223372036854775807) (h1 : pRight m1 e1 = true) (h2 : pRight m2 e2 = true) :
    Calls Tryd.prog 77 #[numV m1 e1, numV m2 e2] w fun x w' => x = .returned (.int .i64 (pCmp m1 e1 m2 e2)) ∧ Below w.heap.size w w' := by
  have k1 : -1000 ≤ e1 ∧ e1 ≤ 40 ∧ -40 ≤ e1 := by
    by_cases z : m1 = 0
    · unfold pRight at h1; rw [if_pos z] at h1; simp at h1; omega
    · have := pRight_of h1 z; omega
  have k2 : -1000 ≤ e2 ∧ e2 ≤ 40 ∧ -40 ≤ e2 := by
    by_cases z : m2 = 0
    · unfold pRight at h2; rw [if_pos z] at h2; simp at h2; omega
    · have := pRight_of h2 z; omega
  have k3 : -1000000000000000 < m2 ∧ m2 < 1000000000000000 := by
    by_cases z : m2 = 0
    · omega
    · have := (pRight_of h2 z).1; omega
  have HC := Lib.hid (cmp_plus m1 e1 m2 e2 h1 h2)
  have CRa := Lib.hid (fun W => rRight_any m1 e1 W b1 b2)
  have CRb := Lib.hid (fun W => rRight_any m2 e2 W b3 b4)
  rw [h1] at CRa
  rw [h2] at CRb
  have CN := Lib.hid (fun W => rNeg_any m2 e2 W b3 b4 h2)
  have hl1 : (dl m1.natAbs).length ≤ 20 := dl_len_le _ (by omega)
  have hl2 : (dl (-m2).natAbs).length ≤ 20 := dl_len_le _ (by omega)
  obtain ⟨n1, hn1⟩ : ∃ n1, (dl m1.natAbs).length = n1 := ⟨_, rfl⟩
  obtain ⟨n2, hn2⟩ : ∃ n2, (dl (-m2).natAbs).length = n2 := ⟨_, rfl⟩
  have CA := Lib.hid (fun W => of_val m1 e1 W n1 hn1 b1 b2)
  have CB := Lib.hid (fun W => of_val (-m2) e2 W n2 hn2 (by omega) (by omega))
  have CP := Lib.hid (fun W (A B : Option Addr) ca cb hL hM => plus_val m1 e1 m2 e2 A B ca cb n1 n2 W hn1 hn2 hL hM (by omega) (by omega) (by omega) (by omega) (by omega) (by omega))
  have T0 := Lib.hid (TwoNum.start w m1 e1 m2 e2)
  have hf0 := dec_field0
  have hf1 := dec_field1
  generalize decide (m1 < 0) = s1 at CA CP
  generalize decide (-m2 < 0) = s2 at CB CP
  generalize (gSum m1 e1 m2 e2).1 = G at *
  generalize (gSum m1 e1 m2 e2).2 = V at *
  generalize pCmp m1 e1 m2 e2 = r at *
  clear h1 h2 b1 b2 b3 b4 hn1 hn2 hl1 hl2 k3
  go_enter Tryd.func77, Tryd.ntmps77
  go_wp2_with fail
  refine (CRa.out _).mono ?_
  rintro x w1 ⟨rfl, hb⟩
  have T1 := Lib.hid (T0.out.next hb)
  obtain ⟨z1, c1, c2, c3, c4, -⟩ := T1.out
  clear hb T0 CRa
  go_wp2_with fail
  refine (CRb.out _).mono ?_
  rintro x w2 ⟨rfl, hb⟩
  have T2 := Lib.hid (T1.out.next hb)
  clear hb T1 CRb z1 c1 c2 c3 c4
  go_upto_region 3 with fail
  go_cut [5] (fun v wx => ∃ (A' : Option Addr) (c' : Nat), v = .slice A' (dlen V) c' ∧ Hid (TwoNum w m1 e1 m2 e2 wx))
  case first =>
    go_region_held3 (fun w' => w.heap.size + 1 < w'.heap.size ∧ w'.cell? ⟨w.heap.size, 0, none⟩ = some (.int .i64 m1) ∧ w'.cell? ⟨w.heap.size, 1, none⟩ = some (.int .i64 e1) ∧ w'.cell? ⟨w.heap.size + 1, 0, none⟩ = some (.int .i64 m2) ∧ w'.cell? ⟨w.heap.size + 1, 1, none⟩ = some (.int .i64 e2) ∧ Below w.heap.size w w')
      (first | exact T2.out | exact T2.out.drew | exact (TwoNum.next T2.out.drew hb) | (go_split_ands; exact (TwoNum.next (w := w) ⟨by assumption, by assumption, by assumption, by assumption, by assumption, by assumption⟩ hb)))
      (first
        | (go_at_call 117; (with_reducible refine (CA.out _).mono ?_); rintro x wx ⟨A1, d1, rfl, hA, hb⟩; (try replace hB := ISl.carry hB hb))
        | (go_at_call 124; (with_reducible refine (CN.out _).mono ?_); rintro x wx ⟨rfl, hb⟩; (try replace hA := ISl.carry hA hb))
        | (go_at_call 117; (with_reducible refine (CB.out _).mono ?_); rintro x wx ⟨B1, d2, rfl, hB, hb⟩; (try replace hA := ISl.carry hA hb))
        | (go_at_call 123; (with_reducible refine (CP.out _ _ _ _ _ hA hB).mono ?_); rintro x wx ⟨C1, d3, n3, D, rfl, hD1, hD2, hD3, hD4, hb⟩)
        | (go_at_call 122; (with_reducible refine (strip_val _ _ _ D V _ hD1 hD2 hD3 hD4).mono ?_); rintro x wx ⟨A5, d5, rfl, hb⟩))
    all_goals go_wp2_with fail
    all_goals go_meet
    all_goals refine ⟨_, _, rfl, Lib.hid ?_⟩
    all_goals first | assumption | (unfold TwoNum; assumption) | (go_split_ands; exact ⟨by assumption, by assumption, by assumption, by assumption, by assumption, by assumption⟩)
  case rest =>
    obtain ⟨A', c', rfl, T3⟩ := hcut
    clear T2
    by_cases hz : V = 0
    · have hr : r = 0 := by
        have := HC.out
        rw [if_pos hz] at this
        exact this.symm
      have hq : dlen V = 0 := by rw [hz]; rfl
      subst hr
      rw [hq]
      clear hz hq HC CA CB CP CN
      go_wp2_with fail
      go_ret
      exact ⟨rfl, T3.out.2.2.2.2.2⟩
    · have hr : r = if G then -1 else 1 := by
        have := HC.out
        rw [if_neg hz] at this
        exact this.symm
      have hq : 0 < dlen V := dlen_pos V (by omega)
      generalize dlen V = q at *
      clear hz HC
      go_upto_region 6 with fail
      go_cut [31] (fun v wx => v = .bool G ∧ Hid (TwoNum w m1 e1 m2 e2 wx))
      case first =>
        go_region_held3 (fun w' => w.heap.size + 1 < w'.heap.size ∧ w'.cell? ⟨w.heap.size, 0, none⟩ = some (.int .i64 m1) ∧ w'.cell? ⟨w.heap.size, 1, none⟩ = some (.int .i64 e1) ∧ w'.cell? ⟨w.heap.size + 1, 0, none⟩ = some (.int .i64 m2) ∧ w'.cell? ⟨w.heap.size + 1, 1, none⟩ = some (.int .i64 e2) ∧ Below w.heap.size w w')
          (first | exact T3.out | exact T3.out.drew | exact (TwoNum.next T3.out.drew hb) | (go_split_ands; exact (TwoNum.next (w := w) ⟨by assumption, by assumption, by assumption, by assumption, by assumption, by assumption⟩ hb)))
          (first
            | (go_at_call 117; (with_reducible refine (CA.out _).mono ?_); rintro x wx ⟨A1, d1, rfl, hA, hb⟩; (try replace hB := ISl.carry hB hb))
            | (go_at_call 124; (with_reducible refine (CN.out _).mono ?_); rintro x wx ⟨rfl, hb⟩; (try replace hA := ISl.carry hA hb))
            | (go_at_call 117; (with_reducible refine (CB.out _).mono ?_); rintro x wx ⟨B1, d2, rfl, hB, hb⟩; (try replace hA := ISl.carry hA hb))
            | (go_at_call 123; (with_reducible refine (CP.out _ _ _ _ _ hA hB).mono ?_); rintro x wx ⟨C1, d3, n3, D, rfl, hD1, hD2, hD3, hD4, hb⟩))
        all_goals go_wp2_with fail
        all_goals go_meet
        all_goals refine ⟨rfl, Lib.hid ?_⟩
        all_goals first | assumption | (unfold TwoNum; assumption) | (go_split_ands; exact ⟨by assumption, by assumption, by assumption, by assumption, by assumption, by assumption⟩)
      case rest =>
        obtain ⟨rfl, T4⟩ := hcut
        clear T3 CA CB CP CN
        subst hr
        cases G
        · go_wp2_with fail
          go_ret
          exact ⟨rfl, T4.out.2.2.2.2.2⟩
        · go_wp2_with fail
          go_ret
          exact ⟨rfl, T4.out.2.2.2.2.2⟩
def pSign (a b : Bool) : Int := if a then -1 else if b then 1 else 0
theorem sign_any (a b : Bool) (w : World) :
    Calls Tryd.prog 76 #[.bool a, .bool b] w fun e w' => e = .returned (.int .i64 (pSign a b)) ∧ w = w' := by
  cases a <;> cases b
  all_goals go_enter Tryd.func76, Tryd.ntmps76
  all_goals go_wp2
  all_goals go_ret
  all_goals exact ⟨rfl, rfl⟩
theorem sign_bytes : ∀ x y : Bs, pSign (Op.bytesLess x y) (!Op.bytesLess x y && !(x == y)) = cmpB x y
  | [], [] => rfl
  | [], _ :: _ => rfl
  | _ :: _, [] => rfl
  | a :: x, b :: y => by
    have ih := sign_bytes x y
    show pSign (decide (a < b) || (a == b && Op.bytesLess x y)) (!(decide (a < b) || (a == b && Op.bytesLess x y)) && !(a :: x == b :: y)) = if a < b then -1 else if b < a then 1 else cmpB x y
    by_cases h1 : a < b
    · rw [decide_eq_true h1, if_pos h1]; rfl
    · rw [decide_eq_false h1, if_neg h1]
      by_cases h2 : b < a
      · have hne : a ≠ b := fun h => by subst h; exact absurd h2 h1
        have hb : (a == b) = false := by rw [beq_eq_false_iff_ne]; exact hne
        rw [if_pos h2, List.cons_beq_cons, hb]; rfl
      · have he : a = b := UInt8.le_antisymm (UInt8.not_lt.1 h2) (UInt8.not_lt.1 h1)
        subst he
        rw [if_neg h2, List.cons_beq_cons, beq_self_eq_true, ← ih]
        simp
theorem sign_ints (x y : Int) : pSign (decide (x < y)) (decide (y < x)) = cmpN x y := by
  unfold pSign cmpN
  by_cases h1 : x < y
  · rw [decide_eq_true h1, if_pos rfl, if_pos h1]
  · rw [decide_eq_false h1, if_neg (by decide), if_neg h1]
    by_cases h2 : y < x
    · rw [decide_eq_true h2, if_pos rfl, if_pos h2]
    · rw [decide_eq_false h2, if_neg (by decide), if_neg h2]
set_option maxRecDepth 100000 in
set_option maxHeartbeats 4000000 in
theorem rcmp_00 (m x m2 x2 f f2 : Int) (t t2 : Bs) (tr tr2 : Bool) (w : World) :
    Calls Tryd.prog 37 #[valV ⟨0, m, x, t, tr, f⟩, valV ⟨0, m2, x2, t2, tr2, f2⟩] w fun e w' => e = .returned (.int .i64 (pCompare ⟨0, m, x, t, tr, f⟩ ⟨0, m2, x2, t2, tr2, f2⟩)) ∧ Below w.heap.size w w' := by
  have hN : pCompare ⟨0, m, x, t, tr, f⟩ ⟨0, m2, x2, t2, tr2, f2⟩ = 0 := rfl
  have HN := Lib.hid hN
  have T0 := Lib.hid (TwoVal.start w ⟨0, 0, 0, [], false, 0⟩ ⟨0, 0, 0, [], false, 0⟩)
  have HB := Lib.hid T0.out.bel
  clear hN
  generalize pCompare ⟨0, m, x, t, tr, f⟩ ⟨0, m2, x2, t2, tr2, f2⟩ = r at *
  go_enter Tryd.func37, Tryd.ntmps37
  go_wp2_with fail
  refine (sign_any _ _ _).mono ?_
  rintro e w1 ⟨rfl, rfl⟩
  go_wp2_with fail
  go_ret
  exact ⟨ret_int (by rw [HN.out]; rfl), HB.out⟩
set_option maxRecDepth 100000 in
set_option maxHeartbeats 4000000 in
theorem rcmp_01 (m x m2 x2 f f2 : Int) (t t2 : Bs) (tr tr2 : Bool) (w : World) (pm21 : -9223372036854775808 ≤ m2) (pm22 : m2 ≤ 9223372036854775807) (pm23 : pRight m2 x2 = true) :
    Calls Tryd.prog 37 #[valV ⟨0, m, x, t, tr, f⟩, valV ⟨1, m2, x2, t2, tr2, f2⟩] w fun e w' => e = .returned (.int .i64 (pCompare ⟨0, m, x, t, tr, f⟩ ⟨1, m2, x2, t2, tr2, f2⟩)) ∧ Below w.heap.size w w' := by
  have C := Lib.hid (fun W => rCmp_right 0 0 m2 x2 W (by decide) (by decide) pm21 pm22 (by decide) pm23)
  have hN : pCompare ⟨0, m, x, t, tr, f⟩ ⟨1, m2, x2, t2, tr2, f2⟩ = pCmp 0 0 m2 x2 := rfl
  have HN := Lib.hid hN
  have T0 := Lib.hid (TwoVal.start w ⟨1, 0, 0, [], false, 0⟩ ⟨1, m2, x2, t2, tr2, f2⟩)
  have HB := Lib.hid T0.out.bel
  clear hN
  generalize pCompare ⟨0, m, x, t, tr, f⟩ ⟨1, m2, x2, t2, tr2, f2⟩ = r at *
  go_enter Tryd.func37, Tryd.ntmps37
  go_wp2_with fail
  refine (C.out _).mono ?_
  rintro e w1 ⟨rfl, hb⟩
  go_wp2_with fail
  go_ret
  exact ⟨ret_int (by rw [HN.out]), HB.out.trans (hb.mono HB.out.size)⟩
set_option maxRecDepth 100000 in
set_option maxHeartbeats 4000000 in
theorem rcmp_02 (m x m2 x2 f f2 : Int) (t t2 : Bs) (tr tr2 : Bool) (w : World) (pt2 : t2.length ≤ 1000000) :
    Calls Tryd.prog 37 #[valV ⟨0, m, x, t, tr, f⟩, valV ⟨2, m2, x2, t2, tr2, f2⟩] w fun e w' => e = .returned (.int .i64 (pCompare ⟨0, m, x, t, tr, f⟩ ⟨2, m2, x2, t2, tr2, f2⟩)) ∧ Below w.heap.size w w' := by
  have c1 := Lib.hid (fun W => rfold_any [] W (by decide))
  have c2 := Lib.hid (fun W => rfold_any t2 W pt2)
  have hN : pCompare ⟨0, m, x, t, tr, f⟩ ⟨2, m2, x2, t2, tr2, f2⟩ = cmpB (pFold []) (pFold t2) := rfl
  have HN := Lib.hid hN
  have T0 := Lib.hid (TwoVal.start w ⟨2, 0, 0, [], false, 0⟩ ⟨2, m2, x2, t2, tr2, f2⟩)
  have HB := Lib.hid T0.out.bel
  clear hN
  generalize pCompare ⟨0, m, x, t, tr, f⟩ ⟨2, m2, x2, t2, tr2, f2⟩ = r at *
  have T2 : Hid (TwoText w [] t2 _) := Lib.hid ⟨T0.out.big, T0.out.a.2.2.2.1, T0.out.b.2.2.2.1, T0.out.bel⟩
  have HS := Lib.hid (sign_bytes (pFold []) (pFold t2))
  clear T0
  generalize pFold [] = y1 at *
  generalize pFold t2 = y2 at *
  go_enter Tryd.func37, Tryd.ntmps37
  go_upto_region 10 with fail
  go_cut [5, 6] (fun v1 v2 wx => v1 = .string ⟨y1.toArray⟩ ∧ v2 = .string ⟨y2.toArray⟩ ∧ Hid (Below w.heap.size w wx))
  case first =>
    clear HN HS
    go_region_held3 (fun w' => w.heap.size + 1 < w'.heap.size ∧ w'.cell? ⟨w.heap.size, 3, none⟩ = some (.string ⟨#[]⟩) ∧ w'.cell? ⟨w.heap.size + 1, 3, none⟩ = some (.string ⟨t2.toArray⟩) ∧ Below w.heap.size w w')
      (first | exact T2.out | exact T2.out.drew | exact (TwoText.next T2.out.drew hb) | (go_split_ands; exact (TwoText.next (w := w) (t1 := []) (t2 := t2) ⟨by assumption, by assumption, by assumption, by assumption⟩ hb)))
      (first
        | (go_at_call 31; (with_reducible refine (c1.out _).mono ?_); rintro e wx ⟨rfl, hb⟩)
        | (go_at_call 31; (with_reducible refine (c2.out _).mono ?_); rintro e wx ⟨rfl, hb⟩))
    all_goals go_wp2_with fail
    all_goals go_meet
    all_goals refine ⟨rfl, rfl, Lib.hid ?_⟩
    all_goals first | assumption | (go_split_ands; assumption)
  case rest =>
    obtain ⟨rfl, rfl, HB2⟩ := hcut
    clear T2 c1 c2
    go_wp2_with fail
    refine (sign_any _ _ _).mono ?_
    rintro e w1 ⟨rfl, rfl⟩
    go_wp2_with fail
    go_ret
    exact ⟨ret_int (by rw [HN.out, ← HS.out]), HB2.out⟩
set_option maxRecDepth 100000 in
set_option maxHeartbeats 4000000 in
theorem rcmp_03 (m x m2 x2 f f2 : Int) (t t2 : Bs) (tr tr2 : Bool) (w : World) :
    Calls Tryd.prog 37 #[valV ⟨0, m, x, t, tr, f⟩, valV ⟨3, m2, x2, t2, tr2, f2⟩] w fun e w' => e = .returned (.int .i64 (pCompare ⟨0, m, x, t, tr, f⟩ ⟨3, m2, x2, t2, tr2, f2⟩)) ∧ Below w.heap.size w w' := by
  have hN : pCompare ⟨0, m, x, t, tr, f⟩ ⟨3, m2, x2, t2, tr2, f2⟩ = pTruthOrder false tr2 := rfl
  have HN := Lib.hid hN
  have T0 := Lib.hid (TwoVal.start w ⟨3, 0, 0, [], false, 0⟩ ⟨3, m2, x2, t2, tr2, f2⟩)
  have HB := Lib.hid T0.out.bel
  clear hN
  generalize pCompare ⟨0, m, x, t, tr, f⟩ ⟨3, m2, x2, t2, tr2, f2⟩ = r at *
  cases tr2
  all_goals go_enter Tryd.func37, Tryd.ntmps37
  all_goals go_wp2_with fail
  all_goals refine (sign_any _ _ _).mono ?_
  all_goals rintro e w1 ⟨rfl, rfl⟩
  all_goals go_wp2_with fail
  all_goals go_ret
  all_goals exact ⟨ret_int (by rw [HN.out]; rfl), HB.out⟩
set_option maxRecDepth 100000 in
set_option maxHeartbeats 4000000 in
theorem rcmp_04 (m x m2 x2 f f2 : Int) (t t2 : Bs) (tr tr2 : Bool) (w : World) :
    Calls Tryd.prog 37 #[valV ⟨0, m, x, t, tr, f⟩, valV ⟨4, m2, x2, t2, tr2, f2⟩] w fun e w' => e = .returned (.int .i64 (pCompare ⟨0, m, x, t, tr, f⟩ ⟨4, m2, x2, t2, tr2, f2⟩)) ∧ Below w.heap.size w w' := by
  have hN : pCompare ⟨0, m, x, t, tr, f⟩ ⟨4, m2, x2, t2, tr2, f2⟩ = -1 := rfl
  have HN := Lib.hid hN
  have T0 := Lib.hid (TwoVal.start w ⟨0, m, x, t, tr, f⟩ ⟨4, m2, x2, t2, tr2, f2⟩)
  have HB := Lib.hid T0.out.bel
  clear hN
  generalize pCompare ⟨0, m, x, t, tr, f⟩ ⟨4, m2, x2, t2, tr2, f2⟩ = r at *
  go_enter Tryd.func37, Tryd.ntmps37
  go_wp2_with fail
  refine (sign_any _ _ _).mono ?_
  rintro e w1 ⟨rfl, rfl⟩
  go_wp2_with fail
  go_ret
  exact ⟨ret_int (by rw [HN.out]; rfl), HB.out⟩
set_option maxRecDepth 100000 in
set_option maxHeartbeats 4000000 in
theorem rcmp_10 (m x m2 x2 f f2 : Int) (t t2 : Bs) (tr tr2 : Bool) (w : World) (pm1 : -9223372036854775808 ≤ m) (pm2 : m ≤ 9223372036854775807) (pm3 : pRight m x = true) :
    Calls Tryd.prog 37 #[valV ⟨1, m, x, t, tr, f⟩, valV ⟨0, m2, x2, t2, tr2, f2⟩] w fun e w' => e = .returned (.int .i64 (pCompare ⟨1, m, x, t, tr, f⟩ ⟨0, m2, x2, t2, tr2, f2⟩)) ∧ Below w.heap.size w w' := by
  have C := Lib.hid (fun W => rCmp_right m x 0 0 W pm1 pm2 (by decide) (by decide) pm3 (by decide))
  have hN : pCompare ⟨1, m, x, t, tr, f⟩ ⟨0, m2, x2, t2, tr2, f2⟩ = pCmp m x 0 0 := rfl
  have HN := Lib.hid hN
  have T0 := Lib.hid (TwoVal.start w ⟨1, m, x, t, tr, f⟩ ⟨1, 0, 0, [], false, 0⟩)
  have HB := Lib.hid T0.out.bel
  clear hN
  generalize pCompare ⟨1, m, x, t, tr, f⟩ ⟨0, m2, x2, t2, tr2, f2⟩ = r at *
  go_enter Tryd.func37, Tryd.ntmps37
  go_wp2_with fail
  refine (C.out _).mono ?_
  rintro e w1 ⟨rfl, hb⟩
  go_wp2_with fail
  go_ret
  exact ⟨ret_int (by rw [HN.out]), HB.out.trans (hb.mono HB.out.size)⟩
set_option maxRecDepth 100000 in
set_option maxHeartbeats 4000000 in
theorem rcmp_11 (m x m2 x2 f f2 : Int) (t t2 : Bs) (tr tr2 : Bool) (w : World) (pm1 : -9223372036854775808 ≤ m) (pm2 : m ≤ 9223372036854775807) (pm3 : pRight m x = true) (pm21 : -9223372036854775808 ≤ m2) (pm22 : m2 ≤ 9223372036854775807) (pm23 : pRight m2 x2 = true) :
    Calls Tryd.prog 37 #[valV ⟨1, m, x, t, tr, f⟩, valV ⟨1, m2, x2, t2, tr2, f2⟩] w fun e w' => e = .returned (.int .i64 (pCompare ⟨1, m, x, t, tr, f⟩ ⟨1, m2, x2, t2, tr2, f2⟩)) ∧ Below w.heap.size w w' := by
  have C := Lib.hid (fun W => rCmp_right m x m2 x2 W pm1 pm2 pm21 pm22 pm3 pm23)
  have hN : pCompare ⟨1, m, x, t, tr, f⟩ ⟨1, m2, x2, t2, tr2, f2⟩ = pCmp m x m2 x2 := rfl
  have HN := Lib.hid hN
  have T0 := Lib.hid (TwoVal.start w ⟨1, m, x, t, tr, f⟩ ⟨1, m2, x2, t2, tr2, f2⟩)
  have HB := Lib.hid T0.out.bel
  clear hN
  generalize pCompare ⟨1, m, x, t, tr, f⟩ ⟨1, m2, x2, t2, tr2, f2⟩ = r at *
  go_enter Tryd.func37, Tryd.ntmps37
  go_wp2_with fail
  refine (C.out _).mono ?_
  rintro e w1 ⟨rfl, hb⟩
  go_wp2_with fail
  go_ret
  exact ⟨ret_int (by rw [HN.out]), HB.out.trans (hb.mono HB.out.size)⟩
set_option maxRecDepth 100000 in
set_option maxHeartbeats 4000000 in
theorem rcmp_12 (m x m2 x2 f f2 : Int) (t t2 : Bs) (tr tr2 : Bool) (w : World) :
    Calls Tryd.prog 37 #[valV ⟨1, m, x, t, tr, f⟩, valV ⟨2, m2, x2, t2, tr2, f2⟩] w fun e w' => e = .returned (.int .i64 (pCompare ⟨1, m, x, t, tr, f⟩ ⟨2, m2, x2, t2, tr2, f2⟩)) ∧ Below w.heap.size w w' := by
  have hN : pCompare ⟨1, m, x, t, tr, f⟩ ⟨2, m2, x2, t2, tr2, f2⟩ = -1 := rfl
  have HN := Lib.hid hN
  have T0 := Lib.hid (TwoVal.start w ⟨1, m, x, t, tr, f⟩ ⟨2, m2, x2, t2, tr2, f2⟩)
  have HB := Lib.hid T0.out.bel
  clear hN
  generalize pCompare ⟨1, m, x, t, tr, f⟩ ⟨2, m2, x2, t2, tr2, f2⟩ = r at *
  go_enter Tryd.func37, Tryd.ntmps37
  go_wp2_with fail
  refine (sign_any _ _ _).mono ?_
  rintro e w1 ⟨rfl, rfl⟩
  go_wp2_with fail
  go_ret
  exact ⟨ret_int (by rw [HN.out]; rfl), HB.out⟩
set_option maxRecDepth 100000 in
set_option maxHeartbeats 4000000 in
theorem rcmp_13 (m x m2 x2 f f2 : Int) (t t2 : Bs) (tr tr2 : Bool) (w : World) :
    Calls Tryd.prog 37 #[valV ⟨1, m, x, t, tr, f⟩, valV ⟨3, m2, x2, t2, tr2, f2⟩] w fun e w' => e = .returned (.int .i64 (pCompare ⟨1, m, x, t, tr, f⟩ ⟨3, m2, x2, t2, tr2, f2⟩)) ∧ Below w.heap.size w w' := by
  have hN : pCompare ⟨1, m, x, t, tr, f⟩ ⟨3, m2, x2, t2, tr2, f2⟩ = -1 := rfl
  have HN := Lib.hid hN
  have T0 := Lib.hid (TwoVal.start w ⟨1, m, x, t, tr, f⟩ ⟨3, m2, x2, t2, tr2, f2⟩)
  have HB := Lib.hid T0.out.bel
  clear hN
  generalize pCompare ⟨1, m, x, t, tr, f⟩ ⟨3, m2, x2, t2, tr2, f2⟩ = r at *
  go_enter Tryd.func37, Tryd.ntmps37
  go_wp2_with fail
  refine (sign_any _ _ _).mono ?_
  rintro e w1 ⟨rfl, rfl⟩
  go_wp2_with fail
  go_ret
  exact ⟨ret_int (by rw [HN.out]; rfl), HB.out⟩
set_option maxRecDepth 100000 in
set_option maxHeartbeats 4000000 in
theorem rcmp_14 (m x m2 x2 f f2 : Int) (t t2 : Bs) (tr tr2 : Bool) (w : World) :
    Calls Tryd.prog 37 #[valV ⟨1, m, x, t, tr, f⟩, valV ⟨4, m2, x2, t2, tr2, f2⟩] w fun e w' => e = .returned (.int .i64 (pCompare ⟨1, m, x, t, tr, f⟩ ⟨4, m2, x2, t2, tr2, f2⟩)) ∧ Below w.heap.size w w' := by
  have hN : pCompare ⟨1, m, x, t, tr, f⟩ ⟨4, m2, x2, t2, tr2, f2⟩ = -1 := rfl
  have HN := Lib.hid hN
  have T0 := Lib.hid (TwoVal.start w ⟨1, m, x, t, tr, f⟩ ⟨4, m2, x2, t2, tr2, f2⟩)
  have HB := Lib.hid T0.out.bel
  clear hN
  generalize pCompare ⟨1, m, x, t, tr, f⟩ ⟨4, m2, x2, t2, tr2, f2⟩ = r at *
  go_enter Tryd.func37, Tryd.ntmps37
  go_wp2_with fail
  refine (sign_any _ _ _).mono ?_
  rintro e w1 ⟨rfl, rfl⟩
  go_wp2_with fail
  go_ret
  exact ⟨ret_int (by rw [HN.out]; rfl), HB.out⟩
set_option maxRecDepth 100000 in
set_option maxHeartbeats 4000000 in
theorem rcmp_20 (m x m2 x2 f f2 : Int) (t t2 : Bs) (tr tr2 : Bool) (w : World) (pt : t.length ≤ 1000000) :
    Calls Tryd.prog 37 #[valV ⟨2, m, x, t, tr, f⟩, valV ⟨0, m2, x2, t2, tr2, f2⟩] w fun e w' => e = .returned (.int .i64 (pCompare ⟨2, m, x, t, tr, f⟩ ⟨0, m2, x2, t2, tr2, f2⟩)) ∧ Below w.heap.size w w' := by
  have c1 := Lib.hid (fun W => rfold_any t W pt)
  have c2 := Lib.hid (fun W => rfold_any [] W (by decide))
  have hN : pCompare ⟨2, m, x, t, tr, f⟩ ⟨0, m2, x2, t2, tr2, f2⟩ = cmpB (pFold t) (pFold []) := rfl
  have HN := Lib.hid hN
  have T0 := Lib.hid (TwoVal.start w ⟨2, m, x, t, tr, f⟩ ⟨2, 0, 0, [], false, 0⟩)
  have HB := Lib.hid T0.out.bel
  clear hN
  generalize pCompare ⟨2, m, x, t, tr, f⟩ ⟨0, m2, x2, t2, tr2, f2⟩ = r at *
  have T2 : Hid (TwoText w t [] _) := Lib.hid ⟨T0.out.big, T0.out.a.2.2.2.1, T0.out.b.2.2.2.1, T0.out.bel⟩
  have HS := Lib.hid (sign_bytes (pFold t) (pFold []))
  clear T0
  generalize pFold t = y1 at *
  generalize pFold [] = y2 at *
  go_enter Tryd.func37, Tryd.ntmps37
  go_upto_region 10 with fail
  go_cut [5, 6] (fun v1 v2 wx => v1 = .string ⟨y1.toArray⟩ ∧ v2 = .string ⟨y2.toArray⟩ ∧ Hid (Below w.heap.size w wx))
  case first =>
    clear HN HS
    go_region_held3 (fun w' => w.heap.size + 1 < w'.heap.size ∧ w'.cell? ⟨w.heap.size, 3, none⟩ = some (.string ⟨t.toArray⟩) ∧ w'.cell? ⟨w.heap.size + 1, 3, none⟩ = some (.string ⟨#[]⟩) ∧ Below w.heap.size w w')
      (first | exact T2.out | exact T2.out.drew | exact (TwoText.next T2.out.drew hb) | (go_split_ands; exact (TwoText.next (w := w) (t1 := t) (t2 := []) ⟨by assumption, by assumption, by assumption, by assumption⟩ hb)))
      (first
        | (go_at_call 31; (with_reducible refine (c1.out _).mono ?_); rintro e wx ⟨rfl, hb⟩)
        | (go_at_call 31; (with_reducible refine (c2.out _).mono ?_); rintro e wx ⟨rfl, hb⟩))
    all_goals go_wp2_with fail
    all_goals go_meet
    all_goals refine ⟨rfl, rfl, Lib.hid ?_⟩
    all_goals first | assumption | (go_split_ands; assumption)
  case rest =>
    obtain ⟨rfl, rfl, HB2⟩ := hcut
    clear T2 c1 c2
    go_wp2_with fail
    refine (sign_any _ _ _).mono ?_
    rintro e w1 ⟨rfl, rfl⟩
    go_wp2_with fail
    go_ret
    exact ⟨ret_int (by rw [HN.out, ← HS.out]), HB2.out⟩
set_option maxRecDepth 100000 in
set_option maxHeartbeats 4000000 in
theorem rcmp_21 (m x m2 x2 f f2 : Int) (t t2 : Bs) (tr tr2 : Bool) (w : World) :
    Calls Tryd.prog 37 #[valV ⟨2, m, x, t, tr, f⟩, valV ⟨1, m2, x2, t2, tr2, f2⟩] w fun e w' => e = .returned (.int .i64 (pCompare ⟨2, m, x, t, tr, f⟩ ⟨1, m2, x2, t2, tr2, f2⟩)) ∧ Below w.heap.size w w' := by
  have hN : pCompare ⟨2, m, x, t, tr, f⟩ ⟨1, m2, x2, t2, tr2, f2⟩ = 1 := rfl
  have HN := Lib.hid hN
  have T0 := Lib.hid (TwoVal.start w ⟨2, m, x, t, tr, f⟩ ⟨1, m2, x2, t2, tr2, f2⟩)
  have HB := Lib.hid T0.out.bel
  clear hN
  generalize pCompare ⟨2, m, x, t, tr, f⟩ ⟨1, m2, x2, t2, tr2, f2⟩ = r at *
  go_enter Tryd.func37, Tryd.ntmps37
  go_wp2_with fail
  refine (sign_any _ _ _).mono ?_
  rintro e w1 ⟨rfl, rfl⟩
  go_wp2_with fail
  go_ret
  exact ⟨ret_int (by rw [HN.out]; rfl), HB.out⟩
set_option maxRecDepth 100000 in
set_option maxHeartbeats 4000000 in
theorem rcmp_22 (m x m2 x2 f f2 : Int) (t t2 : Bs) (tr tr2 : Bool) (w : World) (pt : t.length ≤ 1000000) (pt2 : t2.length ≤ 1000000) :
    Calls Tryd.prog 37 #[valV ⟨2, m, x, t, tr, f⟩, valV ⟨2, m2, x2, t2, tr2, f2⟩] w fun e w' => e = .returned (.int .i64 (pCompare ⟨2, m, x, t, tr, f⟩ ⟨2, m2, x2, t2, tr2, f2⟩)) ∧ Below w.heap.size w w' := by
  have c1 := Lib.hid (fun W => rfold_any t W pt)
  have c2 := Lib.hid (fun W => rfold_any t2 W pt2)
  have hN : pCompare ⟨2, m, x, t, tr, f⟩ ⟨2, m2, x2, t2, tr2, f2⟩ = cmpB (pFold t) (pFold t2) := rfl
  have HN := Lib.hid hN
  have T0 := Lib.hid (TwoVal.start w ⟨2, m, x, t, tr, f⟩ ⟨2, m2, x2, t2, tr2, f2⟩)
  have HB := Lib.hid T0.out.bel
  clear hN
  generalize pCompare ⟨2, m, x, t, tr, f⟩ ⟨2, m2, x2, t2, tr2, f2⟩ = r at *
  have T2 : Hid (TwoText w t t2 _) := Lib.hid ⟨T0.out.big, T0.out.a.2.2.2.1, T0.out.b.2.2.2.1, T0.out.bel⟩
  have HS := Lib.hid (sign_bytes (pFold t) (pFold t2))
  clear T0
  generalize pFold t = y1 at *
  generalize pFold t2 = y2 at *
  go_enter Tryd.func37, Tryd.ntmps37
  go_upto_region 10 with fail
  go_cut [5, 6] (fun v1 v2 wx => v1 = .string ⟨y1.toArray⟩ ∧ v2 = .string ⟨y2.toArray⟩ ∧ Hid (Below w.heap.size w wx))
  case first =>
    clear HN HS
    go_region_held3 (fun w' => w.heap.size + 1 < w'.heap.size ∧ w'.cell? ⟨w.heap.size, 3, none⟩ = some (.string ⟨t.toArray⟩) ∧ w'.cell? ⟨w.heap.size + 1, 3, none⟩ = some (.string ⟨t2.toArray⟩) ∧ Below w.heap.size w w')
      (first | exact T2.out | exact T2.out.drew | exact (TwoText.next T2.out.drew hb) | (go_split_ands; exact (TwoText.next (w := w) (t1 := t) (t2 := t2) ⟨by assumption, by assumption, by assumption, by assumption⟩ hb)))
      (first
        | (go_at_call 31; (with_reducible refine (c1.out _).mono ?_); rintro e wx ⟨rfl, hb⟩)
        | (go_at_call 31; (with_reducible refine (c2.out _).mono ?_); rintro e wx ⟨rfl, hb⟩))
    all_goals go_wp2_with fail
    all_goals go_meet
    all_goals refine ⟨rfl, rfl, Lib.hid ?_⟩
    all_goals first | assumption | (go_split_ands; assumption)
  case rest =>
    obtain ⟨rfl, rfl, HB2⟩ := hcut
    clear T2 c1 c2
    go_wp2_with fail
    refine (sign_any _ _ _).mono ?_
    rintro e w1 ⟨rfl, rfl⟩
    go_wp2_with fail
    go_ret
    exact ⟨ret_int (by rw [HN.out, ← HS.out]), HB2.out⟩
set_option maxRecDepth 100000 in
set_option maxHeartbeats 4000000 in
theorem rcmp_23 (m x m2 x2 f f2 : Int) (t t2 : Bs) (tr tr2 : Bool) (w : World) :
    Calls Tryd.prog 37 #[valV ⟨2, m, x, t, tr, f⟩, valV ⟨3, m2, x2, t2, tr2, f2⟩] w fun e w' => e = .returned (.int .i64 (pCompare ⟨2, m, x, t, tr, f⟩ ⟨3, m2, x2, t2, tr2, f2⟩)) ∧ Below w.heap.size w w' := by
  have hN : pCompare ⟨2, m, x, t, tr, f⟩ ⟨3, m2, x2, t2, tr2, f2⟩ = -1 := rfl
  have HN := Lib.hid hN
  have T0 := Lib.hid (TwoVal.start w ⟨2, m, x, t, tr, f⟩ ⟨3, m2, x2, t2, tr2, f2⟩)
  have HB := Lib.hid T0.out.bel
  clear hN
  generalize pCompare ⟨2, m, x, t, tr, f⟩ ⟨3, m2, x2, t2, tr2, f2⟩ = r at *
  go_enter Tryd.func37, Tryd.ntmps37
  go_wp2_with fail
  refine (sign_any _ _ _).mono ?_
  rintro e w1 ⟨rfl, rfl⟩
  go_wp2_with fail
  go_ret
  exact ⟨ret_int (by rw [HN.out]; rfl), HB.out⟩
set_option maxRecDepth 100000 in
set_option maxHeartbeats 4000000 in
theorem rcmp_24 (m x m2 x2 f f2 : Int) (t t2 : Bs) (tr tr2 : Bool) (w : World) :
    Calls Tryd.prog 37 #[valV ⟨2, m, x, t, tr, f⟩, valV ⟨4, m2, x2, t2, tr2, f2⟩] w fun e w' => e = .returned (.int .i64 (pCompare ⟨2, m, x, t, tr, f⟩ ⟨4, m2, x2, t2, tr2, f2⟩)) ∧ Below w.heap.size w w' := by
  have hN : pCompare ⟨2, m, x, t, tr, f⟩ ⟨4, m2, x2, t2, tr2, f2⟩ = -1 := rfl
  have HN := Lib.hid hN
  have T0 := Lib.hid (TwoVal.start w ⟨2, m, x, t, tr, f⟩ ⟨4, m2, x2, t2, tr2, f2⟩)
  have HB := Lib.hid T0.out.bel
  clear hN
  generalize pCompare ⟨2, m, x, t, tr, f⟩ ⟨4, m2, x2, t2, tr2, f2⟩ = r at *
  go_enter Tryd.func37, Tryd.ntmps37
  go_wp2_with fail
  refine (sign_any _ _ _).mono ?_
  rintro e w1 ⟨rfl, rfl⟩
  go_wp2_with fail
  go_ret
  exact ⟨ret_int (by rw [HN.out]; rfl), HB.out⟩
set_option maxRecDepth 100000 in
set_option maxHeartbeats 4000000 in
theorem rcmp_30 (m x m2 x2 f f2 : Int) (t t2 : Bs) (tr tr2 : Bool) (w : World) :
    Calls Tryd.prog 37 #[valV ⟨3, m, x, t, tr, f⟩, valV ⟨0, m2, x2, t2, tr2, f2⟩] w fun e w' => e = .returned (.int .i64 (pCompare ⟨3, m, x, t, tr, f⟩ ⟨0, m2, x2, t2, tr2, f2⟩)) ∧ Below w.heap.size w w' := by
  have hN : pCompare ⟨3, m, x, t, tr, f⟩ ⟨0, m2, x2, t2, tr2, f2⟩ = pTruthOrder tr false := rfl
  have HN := Lib.hid hN
  have T0 := Lib.hid (TwoVal.start w ⟨3, m, x, t, tr, f⟩ ⟨3, 0, 0, [], false, 0⟩)
  have HB := Lib.hid T0.out.bel
  clear hN
  generalize pCompare ⟨3, m, x, t, tr, f⟩ ⟨0, m2, x2, t2, tr2, f2⟩ = r at *
  cases tr
  all_goals go_enter Tryd.func37, Tryd.ntmps37
  all_goals go_wp2_with fail
  all_goals refine (sign_any _ _ _).mono ?_
  all_goals rintro e w1 ⟨rfl, rfl⟩
  all_goals go_wp2_with fail
  all_goals go_ret
  all_goals exact ⟨ret_int (by rw [HN.out]; rfl), HB.out⟩
set_option maxRecDepth 100000 in
set_option maxHeartbeats 4000000 in
theorem rcmp_31 (m x m2 x2 f f2 : Int) (t t2 : Bs) (tr tr2 : Bool) (w : World) :
    Calls Tryd.prog 37 #[valV ⟨3, m, x, t, tr, f⟩, valV ⟨1, m2, x2, t2, tr2, f2⟩] w fun e w' => e = .returned (.int .i64 (pCompare ⟨3, m, x, t, tr, f⟩ ⟨1, m2, x2, t2, tr2, f2⟩)) ∧ Below w.heap.size w w' := by
  have hN : pCompare ⟨3, m, x, t, tr, f⟩ ⟨1, m2, x2, t2, tr2, f2⟩ = 1 := rfl
  have HN := Lib.hid hN
  have T0 := Lib.hid (TwoVal.start w ⟨3, m, x, t, tr, f⟩ ⟨1, m2, x2, t2, tr2, f2⟩)
  have HB := Lib.hid T0.out.bel
  clear hN
  generalize pCompare ⟨3, m, x, t, tr, f⟩ ⟨1, m2, x2, t2, tr2, f2⟩ = r at *
  go_enter Tryd.func37, Tryd.ntmps37
  go_wp2_with fail
  refine (sign_any _ _ _).mono ?_
  rintro e w1 ⟨rfl, rfl⟩
  go_wp2_with fail
  go_ret
  exact ⟨ret_int (by rw [HN.out]; rfl), HB.out⟩
set_option maxRecDepth 100000 in
set_option maxHeartbeats 4000000 in
theorem rcmp_32 (m x m2 x2 f f2 : Int) (t t2 : Bs) (tr tr2 : Bool) (w : World) :
    Calls Tryd.prog 37 #[valV ⟨3, m, x, t, tr, f⟩, valV ⟨2, m2, x2, t2, tr2, f2⟩] w fun e w' => e = .returned (.int .i64 (pCompare ⟨3, m, x, t, tr, f⟩ ⟨2, m2, x2, t2, tr2, f2⟩)) ∧ Below w.heap.size w w' := by
  have hN : pCompare ⟨3, m, x, t, tr, f⟩ ⟨2, m2, x2, t2, tr2, f2⟩ = 1 := rfl
  have HN := Lib.hid hN
  have T0 := Lib.hid (TwoVal.start w ⟨3, m, x, t, tr, f⟩ ⟨2, m2, x2, t2, tr2, f2⟩)
  have HB := Lib.hid T0.out.bel
  clear hN
  generalize pCompare ⟨3, m, x, t, tr, f⟩ ⟨2, m2, x2, t2, tr2, f2⟩ = r at *
  go_enter Tryd.func37, Tryd.ntmps37
  go_wp2_with fail
  refine (sign_any _ _ _).mono ?_
  rintro e w1 ⟨rfl, rfl⟩
  go_wp2_with fail
  go_ret
  exact ⟨ret_int (by rw [HN.out]; rfl), HB.out⟩
set_option maxRecDepth 100000 in
set_option maxHeartbeats 4000000 in
theorem rcmp_33 (m x m2 x2 f f2 : Int) (t t2 : Bs) (tr tr2 : Bool) (w : World) :
    Calls Tryd.prog 37 #[valV ⟨3, m, x, t, tr, f⟩, valV ⟨3, m2, x2, t2, tr2, f2⟩] w fun e w' => e = .returned (.int .i64 (pCompare ⟨3, m, x, t, tr, f⟩ ⟨3, m2, x2, t2, tr2, f2⟩)) ∧ Below w.heap.size w w' := by
  have hN : pCompare ⟨3, m, x, t, tr, f⟩ ⟨3, m2, x2, t2, tr2, f2⟩ = pTruthOrder tr tr2 := rfl
  have HN := Lib.hid hN
  have T0 := Lib.hid (TwoVal.start w ⟨3, m, x, t, tr, f⟩ ⟨3, m2, x2, t2, tr2, f2⟩)
  have HB := Lib.hid T0.out.bel
  clear hN
  generalize pCompare ⟨3, m, x, t, tr, f⟩ ⟨3, m2, x2, t2, tr2, f2⟩ = r at *
  cases tr
  all_goals cases tr2
  all_goals go_enter Tryd.func37, Tryd.ntmps37
  all_goals go_wp2_with fail
  all_goals refine (sign_any _ _ _).mono ?_
  all_goals rintro e w1 ⟨rfl, rfl⟩
  all_goals go_wp2_with fail
  all_goals go_ret
  all_goals exact ⟨ret_int (by rw [HN.out]; rfl), HB.out⟩
set_option maxRecDepth 100000 in
set_option maxHeartbeats 4000000 in
theorem rcmp_34 (m x m2 x2 f f2 : Int) (t t2 : Bs) (tr tr2 : Bool) (w : World) :
    Calls Tryd.prog 37 #[valV ⟨3, m, x, t, tr, f⟩, valV ⟨4, m2, x2, t2, tr2, f2⟩] w fun e w' => e = .returned (.int .i64 (pCompare ⟨3, m, x, t, tr, f⟩ ⟨4, m2, x2, t2, tr2, f2⟩)) ∧ Below w.heap.size w w' := by
  have hN : pCompare ⟨3, m, x, t, tr, f⟩ ⟨4, m2, x2, t2, tr2, f2⟩ = -1 := rfl
  have HN := Lib.hid hN
  have T0 := Lib.hid (TwoVal.start w ⟨3, m, x, t, tr, f⟩ ⟨4, m2, x2, t2, tr2, f2⟩)
  have HB := Lib.hid T0.out.bel
  clear hN
  generalize pCompare ⟨3, m, x, t, tr, f⟩ ⟨4, m2, x2, t2, tr2, f2⟩ = r at *
  go_enter Tryd.func37, Tryd.ntmps37
  go_wp2_with fail
  refine (sign_any _ _ _).mono ?_
  rintro e w1 ⟨rfl, rfl⟩
  go_wp2_with fail
  go_ret
  exact ⟨ret_int (by rw [HN.out]; rfl), HB.out⟩
set_option maxRecDepth 100000 in
set_option maxHeartbeats 4000000 in
theorem rcmp_40 (m x m2 x2 f f2 : Int) (t t2 : Bs) (tr tr2 : Bool) (w : World) :
    Calls Tryd.prog 37 #[valV ⟨4, m, x, t, tr, f⟩, valV ⟨0, m2, x2, t2, tr2, f2⟩] w fun e w' => e = .returned (.int .i64 (pCompare ⟨4, m, x, t, tr, f⟩ ⟨0, m2, x2, t2, tr2, f2⟩)) ∧ Below w.heap.size w w' := by
  have hN : pCompare ⟨4, m, x, t, tr, f⟩ ⟨0, m2, x2, t2, tr2, f2⟩ = 1 := rfl
  have HN := Lib.hid hN
  have T0 := Lib.hid (TwoVal.start w ⟨4, m, x, t, tr, f⟩ ⟨0, m2, x2, t2, tr2, f2⟩)
  have HB := Lib.hid T0.out.bel
  clear hN
  generalize pCompare ⟨4, m, x, t, tr, f⟩ ⟨0, m2, x2, t2, tr2, f2⟩ = r at *
  go_enter Tryd.func37, Tryd.ntmps37
  go_wp2_with fail
  refine (sign_any _ _ _).mono ?_
  rintro e w1 ⟨rfl, rfl⟩
  go_wp2_with fail
  go_ret
  exact ⟨ret_int (by rw [HN.out]; rfl), HB.out⟩
set_option maxRecDepth 100000 in
set_option maxHeartbeats 4000000 in
theorem rcmp_41 (m x m2 x2 f f2 : Int) (t t2 : Bs) (tr tr2 : Bool) (w : World) :
    Calls Tryd.prog 37 #[valV ⟨4, m, x, t, tr, f⟩, valV ⟨1, m2, x2, t2, tr2, f2⟩] w fun e w' => e = .returned (.int .i64 (pCompare ⟨4, m, x, t, tr, f⟩ ⟨1, m2, x2, t2, tr2, f2⟩)) ∧ Below w.heap.size w w' := by
  have hN : pCompare ⟨4, m, x, t, tr, f⟩ ⟨1, m2, x2, t2, tr2, f2⟩ = 1 := rfl
  have HN := Lib.hid hN
  have T0 := Lib.hid (TwoVal.start w ⟨4, m, x, t, tr, f⟩ ⟨1, m2, x2, t2, tr2, f2⟩)
  have HB := Lib.hid T0.out.bel
  clear hN
  generalize pCompare ⟨4, m, x, t, tr, f⟩ ⟨1, m2, x2, t2, tr2, f2⟩ = r at *
  go_enter Tryd.func37, Tryd.ntmps37
  go_wp2_with fail
  refine (sign_any _ _ _).mono ?_
  rintro e w1 ⟨rfl, rfl⟩
  go_wp2_with fail
  go_ret
  exact ⟨ret_int (by rw [HN.out]; rfl), HB.out⟩
set_option maxRecDepth 100000 in
set_option maxHeartbeats 4000000 in
theorem rcmp_42 (m x m2 x2 f f2 : Int) (t t2 : Bs) (tr tr2 : Bool) (w : World) :
    Calls Tryd.prog 37 #[valV ⟨4, m, x, t, tr, f⟩, valV ⟨2, m2, x2, t2, tr2, f2⟩] w fun e w' => e = .returned (.int .i64 (pCompare ⟨4, m, x, t, tr, f⟩ ⟨2, m2, x2, t2, tr2, f2⟩)) ∧ Below w.heap.size w w' := by
  have hN : pCompare ⟨4, m, x, t, tr, f⟩ ⟨2, m2, x2, t2, tr2, f2⟩ = 1 := rfl
  have HN := Lib.hid hN
  have T0 := Lib.hid (TwoVal.start w ⟨4, m, x, t, tr, f⟩ ⟨2, m2, x2, t2, tr2, f2⟩)
  have HB := Lib.hid T0.out.bel
  clear hN
  generalize pCompare ⟨4, m, x, t, tr, f⟩ ⟨2, m2, x2, t2, tr2, f2⟩ = r at *
  go_enter Tryd.func37, Tryd.ntmps37
  go_wp2_with fail
  refine (sign_any _ _ _).mono ?_
  rintro e w1 ⟨rfl, rfl⟩
  go_wp2_with fail
  go_ret
  exact ⟨ret_int (by rw [HN.out]; rfl), HB.out⟩
set_option maxRecDepth 100000 in
set_option maxHeartbeats 4000000 in
theorem rcmp_43 (m x m2 x2 f f2 : Int) (t t2 : Bs) (tr tr2 : Bool) (w : World) :
    Calls Tryd.prog 37 #[valV ⟨4, m, x, t, tr, f⟩, valV ⟨3, m2, x2, t2, tr2, f2⟩] w fun e w' => e = .returned (.int .i64 (pCompare ⟨4, m, x, t, tr, f⟩ ⟨3, m2, x2, t2, tr2, f2⟩)) ∧ Below w.heap.size w w' := by
  have hN : pCompare ⟨4, m, x, t, tr, f⟩ ⟨3, m2, x2, t2, tr2, f2⟩ = 1 := rfl
  have HN := Lib.hid hN
  have T0 := Lib.hid (TwoVal.start w ⟨4, m, x, t, tr, f⟩ ⟨3, m2, x2, t2, tr2, f2⟩)
  have HB := Lib.hid T0.out.bel
  clear hN
  generalize pCompare ⟨4, m, x, t, tr, f⟩ ⟨3, m2, x2, t2, tr2, f2⟩ = r at *
  go_enter Tryd.func37, Tryd.ntmps37
  go_wp2_with fail
  refine (sign_any _ _ _).mono ?_
  rintro e w1 ⟨rfl, rfl⟩
  go_wp2_with fail
  go_ret
  exact ⟨ret_int (by rw [HN.out]; rfl), HB.out⟩
set_option maxRecDepth 100000 in
set_option maxHeartbeats 4000000 in
theorem rcmp_44 (m x m2 x2 f f2 : Int) (t t2 : Bs) (tr tr2 : Bool) (w : World) :
    Calls Tryd.prog 37 #[valV ⟨4, m, x, t, tr, f⟩, valV ⟨4, m2, x2, t2, tr2, f2⟩] w fun e w' => e = .returned (.int .i64 (pCompare ⟨4, m, x, t, tr, f⟩ ⟨4, m2, x2, t2, tr2, f2⟩)) ∧ Below w.heap.size w w' := by
  have hN : pCompare ⟨4, m, x, t, tr, f⟩ ⟨4, m2, x2, t2, tr2, f2⟩ = cmpN f f2 := rfl
  have HN := Lib.hid hN
  have T0 := Lib.hid (TwoVal.start w ⟨4, m, x, t, tr, f⟩ ⟨4, m2, x2, t2, tr2, f2⟩)
  have HB := Lib.hid T0.out.bel
  clear hN
  generalize pCompare ⟨4, m, x, t, tr, f⟩ ⟨4, m2, x2, t2, tr2, f2⟩ = r at *
  go_enter Tryd.func37, Tryd.ntmps37
  go_wp2_with fail
  refine (sign_any _ _ _).mono ?_
  rintro e w1 ⟨rfl, rfl⟩
  go_wp2_with fail
  go_ret
  exact ⟨ret_int (by rw [HN.out]; exact sign_ints _ _), HB.out⟩
theorem kinds_right {v : Val} (h : vRight v = true) : v.kind = 0 ∨ v.kind = 1 ∨ v.kind = 2 ∨ v.kind = 3 ∨ v.kind = 4 := by
  by_cases h0 : v.kind = 0
  · exact .inl h0
  by_cases h1 : v.kind = 1
  · exact .inr (.inl h1)
  by_cases h2 : v.kind = 2
  · exact .inr (.inr (.inl h2))
  by_cases h3 : v.kind = 3
  · exact .inr (.inr (.inr (.inl h3)))
  by_cases h4 : v.kind = 4
  · exact .inr (.inr (.inr (.inr h4)))
  rw [vRight_other v h0 h1 h2 h3 h4] at h
  cases h
theorem rcompare_any (a b : Val) (w : World) (fa : Fit a) (fb : Fit b) (ka : a.kind = 0 ∨ a.kind = 1 ∨ a.kind = 2 ∨ a.kind = 3 ∨ a.kind = 4) (kb : b.kind = 0 ∨ b.kind = 1 ∨ b.kind = 2 ∨ b.kind = 3 ∨ b.kind = 4) (la : a.text.length ≤ 1000000) (lb : b.text.length ≤ 1000000) :
    Calls Tryd.prog 37 #[valV a, valV b] w fun e w' => e = .returned (.int .i64 (pCompare a b)) ∧ Below w.heap.size w w' := by
  obtain ⟨k, m, x, t, tr, f⟩ := a
  obtain ⟨k2, m2, x2, t2, tr2, f2⟩ := b
  obtain ⟨a1, a2, a3, -⟩ := fa
  obtain ⟨b1, b2, b3, -⟩ := fb
  dsimp only at ka kb la lb a1 a2 a3 b1 b2 b3
  rcases ka with rfl | rfl | rfl | rfl | rfl
  · rcases kb with rfl | rfl | rfl | rfl | rfl
    · exact rcmp_00 m x m2 x2 f f2 t t2 tr tr2 w
    · exact rcmp_01 m x m2 x2 f f2 t t2 tr tr2 w b1 b2 (b3 rfl)
    · exact rcmp_02 m x m2 x2 f f2 t t2 tr tr2 w lb
    · exact rcmp_03 m x m2 x2 f f2 t t2 tr tr2 w
    · exact rcmp_04 m x m2 x2 f f2 t t2 tr tr2 w
  · rcases kb with rfl | rfl | rfl | rfl | rfl
    · exact rcmp_10 m x m2 x2 f f2 t t2 tr tr2 w a1 a2 (a3 rfl)
    · exact rcmp_11 m x m2 x2 f f2 t t2 tr tr2 w a1 a2 (a3 rfl) b1 b2 (b3 rfl)
    · exact rcmp_12 m x m2 x2 f f2 t t2 tr tr2 w
    · exact rcmp_13 m x m2 x2 f f2 t t2 tr tr2 w
    · exact rcmp_14 m x m2 x2 f f2 t t2 tr tr2 w
  · rcases kb with rfl | rfl | rfl | rfl | rfl
    · exact rcmp_20 m x m2 x2 f f2 t t2 tr tr2 w la
    · exact rcmp_21 m x m2 x2 f f2 t t2 tr tr2 w
    · exact rcmp_22 m x m2 x2 f f2 t t2 tr tr2 w la lb
    · exact rcmp_23 m x m2 x2 f f2 t t2 tr tr2 w
    · exact rcmp_24 m x m2 x2 f f2 t t2 tr tr2 w
  · rcases kb with rfl | rfl | rfl | rfl | rfl
    · exact rcmp_30 m x m2 x2 f f2 t t2 tr tr2 w
    · exact rcmp_31 m x m2 x2 f f2 t t2 tr tr2 w
    · exact rcmp_32 m x m2 x2 f f2 t t2 tr tr2 w
    · exact rcmp_33 m x m2 x2 f f2 t t2 tr tr2 w
    · exact rcmp_34 m x m2 x2 f f2 t t2 tr tr2 w
  · rcases kb with rfl | rfl | rfl | rfl | rfl
    · exact rcmp_40 m x m2 x2 f f2 t t2 tr tr2 w
    · exact rcmp_41 m x m2 x2 f f2 t t2 tr tr2 w
    · exact rcmp_42 m x m2 x2 f f2 t t2 tr tr2 w
    · exact rcmp_43 m x m2 x2 f f2 t t2 tr tr2 w
    · exact rcmp_44 m x m2 x2 f f2 t t2 tr tr2 w
set_option maxRecDepth 100000 in
set_option maxHeartbeats 1600000 in
theorem rorder_any (a b : Val) (w : World) (fa : Fit a) (fb : Fit b) (ka : a.kind = 0 ∨ a.kind = 1 ∨ a.kind = 2 ∨ a.kind = 3 ∨ a.kind = 4) (kb : b.kind = 0 ∨ b.kind = 1 ∨ b.kind = 2 ∨ b.kind = 3 ∨ b.kind = 4) (la : a.text.length ≤ 1000000) (lb : b.text.length ≤ 1000000) :
    Calls Tryd.prog 38 #[valV a, valV b] w fun e w' => e = .returned (.int .i64 (pOrder a b)) ∧ Below w.heap.size w w' := by
  have hN : pOrder a b = if a.kind = 0 ∧ b.kind = 0 then 0 else if a.kind = 0 then 1 else if b.kind = 0 then -1 else pCompare a b := rfl
  have HN := Lib.hid hN
  have HC := Lib.hid (fun W => rcompare_any a b W fa fb ka kb la lb)
  clear hN
  generalize pOrder a b = r at *
  generalize pCompare a b = r2 at *
  have hB : Below w.heap.size w ((w.alloc (.cells (valC a) 41)).alloc (.cells (valC b) 41)) := ((Below.refl _ w).alloc (Nat.le_refl _) _).alloc (by simp) _
  have HB := Lib.hid hB
  clear hB fa fb ka kb la lb
  obtain ⟨k, m, x, t, tr, f⟩ := a
  obtain ⟨k2, m2, x2, t2, tr2, f2⟩ := b
  dsimp only at HN
  by_cases h1 : k = 0
  · by_cases h2 : k2 = 0
    · rw [if_pos ⟨h1, h2⟩] at HN
      subst h1; subst h2
      go_enter Tryd.func38, Tryd.ntmps38
      go_wp2_with fail
      refine (sign_any _ _ _).mono ?_
      rintro e w1 ⟨rfl, rfl⟩
      go_wp2_with fail
      go_ret
      exact ⟨ret_int (by rw [HN.out]; rfl), HB.out⟩
    · rw [if_neg (fun h => h2 h.2), if_pos h1] at HN
      subst h1
      have b2 : (k2 == 0) = false := by rw [beq_eq_false_iff_ne]; exact h2
      have b3 : (k2 != 0) = true := by rw [bne_iff_ne]; exact h2
      clear h2
      go_enter Tryd.func38, Tryd.ntmps38
      go_wp2_with fail
      refine (sign_any _ _ _).mono ?_
      rintro e w1 ⟨rfl, rfl⟩
      go_wp2_with fail
      go_ret
      exact ⟨ret_int (by rw [HN.out]; rfl), HB.out⟩
  · have b1 : (k == 0) = false := by rw [beq_eq_false_iff_ne]; exact h1
    have b3 : (k != 0) = true := by rw [bne_iff_ne]; exact h1
    by_cases h2 : k2 = 0
    · rw [if_neg (fun h => h1 h.1), if_neg h1, if_pos h2] at HN
      subst h2
      clear h1
      go_enter Tryd.func38, Tryd.ntmps38
      go_wp2_with fail
      refine (sign_any _ _ _).mono ?_
      rintro e w1 ⟨rfl, rfl⟩
      go_wp2_with fail
      go_ret
      exact ⟨ret_int (by rw [HN.out]; rfl), HB.out⟩
    · rw [if_neg (fun h => h1 h.1), if_neg h1, if_neg h2] at HN
      have b2 : (k2 == 0) = false := by rw [beq_eq_false_iff_ne]; exact h2
      clear h1 h2
      go_enter Tryd.func38, Tryd.ntmps38
      go_wp2_with fail
      refine (HC.out _).mono ?_
      rintro e w1 ⟨rfl, hb⟩
      go_wp2_with fail
      go_ret
      exact ⟨ret_int (by rw [HN.out]), HB.out.trans (hb.mono HB.out.size)⟩
end Go.Proofs.YtcgdeoldgnjdeaaDoor
