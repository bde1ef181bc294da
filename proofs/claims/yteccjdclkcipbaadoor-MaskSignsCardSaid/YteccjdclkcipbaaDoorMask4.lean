/-
  mask.grouped, part.show, letter, digits, next: what they return.
-/
import Derived.Test.YteccjdclkcipbaaDoorPlMa
import Derived.Test.YteccjdclkcipbaaDoorBuild1
import Derived.Test.YteccjdclkcipbaaDoorShelfB
import Derived.Test.YteccjdclkcipbaaDoorNum1
import Derived.Test.YteccjdclkcipbaaDoorNum13
import Derived.Test.YteccjdclkcipbaaDoorNum10
import Derived.Test.YteccjdclkcipbaaDoorVal2
import Derived.Test.YteccjdclkcipbaaDoorLex5
namespace Go.Proofs.YteccjdclkcipbaaDoor
open Go.RowKit

set_option maxHeartbeats 3200000 in
theorem grouped_any (l : Bs) (w : World) (hl : l.length ≤ 1000000) :
    Calls Tryd.prog 125 #[.string ⟨l.toArray⟩] w fun e w' => e = .returned (.string ⟨(groupG l).toArray⟩) ∧ Below w.heap.size w w' := by
  have HP := Lib.hid (GInv.start l)
  go_enter Tryd.func125, Tryd.ntmps125
  go_wp2_with fail
  go_loopw [4, 7] (fun _ i wr => ∃ (k : Nat) (acc : Bs), i = .int .i64 k ∧ Hid (GInv l acc k) ∧ Hid (Lib.IsBuilder 102 5 w.heap.size w.heap.size (Lib.byteCells acc) wr) ∧ Hid (Below w.heap.size w wr)) (fun _ i _ => l.length - (intOf i).toNat)
  case atStart => exact ⟨0, [], rfl, HP, Lib.hid (Lib.fresh_isBuilder _ _ w), Lib.hid ((Below.refl _ w).alloc (Nat.le_refl _) _)⟩
  case round =>
    obtain ⟨k, acc, rfl, hq, hB, hbel⟩ := hrel
    have hlk : True := trivial
    clear HP
    by_cases hlt : k < l.length
    · have hacc := hq.out.2.1
      have hstep := Lib.hid (hq.out.step hlt)
      cases hc : commaAt l.length k
      · rw [hc, if_neg (by decide)] at hstep
        by_cases hk0 : 0 < k
        · have hm : ((l.length : Int) - (k : Int)) % 3 ≠ 0 := by
            simp [commaAt, hk0] at hc
            omega
          have hm2 : (((l.length : Int) - (k : Int)) % 3 == 0) = false := by rw [beq_eq_false_iff_ne]; exact hm
          clear hm hc hlk
          go_wp2_with fail
          refine (writeByte_any w.heap.size w.heap.size acc l[k] _ hB.out (by omega) hbel.out.size).mono ?_
          rintro e w1 ⟨rfl, hb1, hb2⟩
          have HB1 := Lib.hid hb1
          have HW1 : Hid (Below w.heap.size w w1) := Lib.hid (hbel.out.trans hb2)
          clear hb1 hb2 hB hbel
          go_wp2_with fail
          go_roundw
          case rel => exact ⟨k + 1, _, by go_num, hstep, HB1, HW1⟩
          case measure => simp [intOf]; omega
        · obtain rfl : k = 0 := by omega
          clear hc hlk hk0
          go_wp2_with fail
          refine (writeByte_any w.heap.size w.heap.size acc l[0] _ hB.out (by omega) hbel.out.size).mono ?_
          rintro e w1 ⟨rfl, hb1, hb2⟩
          have HB1 := Lib.hid hb1
          have HW1 : Hid (Below w.heap.size w w1) := Lib.hid (hbel.out.trans hb2)
          clear hb1 hb2 hB hbel
          go_wp2_with fail
          go_roundw
          case rel => exact ⟨0 + 1, _, by go_num, hstep, HB1, HW1⟩
          case measure => simp [intOf]; omega
      · rw [hc, if_pos rfl] at hstep
        have hc2 : 0 < k ∧ ((l.length : Int) - (k : Int)) % 3 = 0 := by
          unfold commaAt at hc
          rw [Bool.and_eq_true, decide_eq_true_eq, decide_eq_true_eq] at hc
          omega
        obtain ⟨hk0, hm⟩ := hc2
        have hm2 : (((l.length : Int) - (k : Int)) % 3 == 0) = true := by rw [beq_iff_eq]; exact hm
        clear hm hc hlk
        go_wp2_with fail
        refine (writeByte_any w.heap.size w.heap.size acc 44 _ hB.out (by omega) hbel.out.size).mono ?_
        rintro e w1 ⟨rfl, hb1, hb2⟩
        have HB1 := Lib.hid hb1
        have HW1 : Hid (Below w.heap.size w w1) := Lib.hid (hbel.out.trans hb2)
        clear hb1 hb2 hB hbel
        go_wp2_with fail
        refine (writeByte_any w.heap.size w.heap.size (acc ++ [44]) l[k] _ HB1.out (by simp; omega) HW1.out.size).mono ?_
        rintro e w2 ⟨rfl, hb1, hb2⟩
        have HB2 := Lib.hid hb1
        have HW2 : Hid (Below w.heap.size w w2) := Lib.hid (HW1.out.trans hb2)
        clear hb1 hb2 HB1 HW1
        go_wp2_with fail
        go_roundw
        case rel => exact ⟨k + 1, _, by go_num, hstep, HB2, HW2⟩
        case measure => simp [intOf]; omega
    · have hres := hq.out.done hlt
      have HBU : Hid (Lib.IsBuilder 102 5 w.heap.size w.heap.size (Lib.byteCells (groupG l)) wr) := Lib.hid (hres ▸ hB.out)
      clear hres hB
      go_wp2_with fail
      refine (Tryd.Builder_String_any w.heap.size w.heap.size (groupG l) _ HBU.out hbel.out.size).mono ?_
      rintro e w1 ⟨rfl, hb⟩
      go_wp2_with fail
      go_ret
      exact ⟨rfl, hbel.out.trans hb⟩
def partC (p : MP) : Array Value := #[.int .i64 p.kind, .string ⟨p.text.toArray⟩, .int .i64 p.whole, .bool p.comma, .bool p.point, .int .i64 p.most, .int .i64 p.least]
abbrev partV (p : MP) : Value := .agg #[.int .i64 p.kind, .string ⟨p.text.toArray⟩, .int .i64 p.whole, .bool p.comma, .bool p.point, .int .i64 p.most, .int .i64 p.least]
structure PartIn (w : World) (p : MP) (m e : Int) (w' : World) : Prop where
  part : Lies w' w.heap.size 95 (partC p)
  num : Lies w' (w.heap.size + 1) 23 #[.int .i64 m, .int .i64 e]
  bel : Below w.heap.size w w'
theorem PartIn.start (w : World) (p : MP) (m e : Int) : PartIn w p m e ((w.alloc (.cells (partC p) 95)).alloc (.cells #[.int .i64 m, .int .i64 e] 23)) :=
  ⟨(Lies.new w _ _).alloc _, by have := Lies.new (w.alloc (.cells (partC p) 95)) 23 #[.int .i64 m, .int .i64 e]; simpa using this, ((Below.refl _ w).alloc (Nat.le_refl _) _).alloc (by simp) _⟩
theorem PartIn.next {w w' w'' : World} {p : MP} {m e : Int} (h : PartIn w p m e w') (hb : Below w'.heap.size w' w'') : PartIn w p m e w'' :=
  ⟨Lies.below h.part hb, Lies.below h.num hb, h.bel.trans (hb.mono h.bel.size)⟩
theorem mcut_any (t : Bs) (w : World) (ht : t.length ≤ 1000000) (hm : MaxVar w) :
    Calls Tryd.prog 123 #[.string ⟨t.toArray⟩, .string ⟨#[46]⟩] w fun e w' => e = .returned (.tuple #[.string ⟨(Lib.cut t [46]).1.toArray⟩, .string ⟨(Lib.cut t [46]).2.1.toArray⟩, .bool (Lib.cut t [46]).2.2]) ∧ Below w.heap.size w w' := by
  obtain ⟨m, hm⟩ := hm
  refine (Tryd.strings_Cut ⟨t.toArray⟩ ⟨#[46]⟩ m w (by simp [ByteArray.size]; omega) hm).mono ?_
  rintro e w' ⟨rfl, n, rfl⟩
  exact ⟨by simp, below_drewN (Below.refl _ _) n⟩
set_option maxRecDepth 100000 in
set_option maxHeartbeats 3200000 in
theorem places_any (p : MP) (m e : Int) (w : World) (hp : PowTab w) (hm : MaxVar w) (hR : pRight m e = true) (h1 : p.whole ≤ 1000) (h2 : p.most ≤ 1000) (h3 : p.least ≤ 1000) :
    Calls Tryd.prog 92 #[partV p, numV m e] w fun x w' => x = .returned (.string ⟨(pPlaces p m e).toArray⟩) ∧ Below w.heap.size w w' := by
  obtain ⟨kind, text, whole, comma, point, most, least⟩ := p
  dsimp only at h1 h2 h3
  have hRR := nRound_right m e most hR
  have hb := rb hRR
  have CR := Lib.hid (fun W => nround_any m e most W (by omega) hR)
  have CT := Lib.hid (fun W h => nText_right _ _ W h (by omega) (by omega) hRR)
  have hsh := nText_short _ _ hRR
  have hcs := cut_short (nText (nRound m e most).1 (nRound m e most).2) [46]
  have CC := Lib.hid (fun W h => mcut_any (nText (nRound m e most).1 (nRound m e most).2) W (by omega) h)
  have HD : Hid (pPlaces ⟨kind, text, whole, comma, point, most, least⟩ m e =
    (if point then (if comma then groupG (List.replicate (whole - (if (Lib.cut (nText (nRound m e most).1 (nRound m e most).2) [46]).1 = [48] then [] else (Lib.cut (nText (nRound m e most).1 (nRound m e most).2) [46]).1).length) 48 ++ (if (Lib.cut (nText (nRound m e most).1 (nRound m e most).2) [46]).1 = [48] then [] else (Lib.cut (nText (nRound m e most).1 (nRound m e most).2) [46]).1)) else List.replicate (whole - (if (Lib.cut (nText (nRound m e most).1 (nRound m e most).2) [46]).1 = [48] then [] else (Lib.cut (nText (nRound m e most).1 (nRound m e most).2) [46]).1).length) 48 ++ (if (Lib.cut (nText (nRound m e most).1 (nRound m e most).2) [46]).1 = [48] then [] else (Lib.cut (nText (nRound m e most).1 (nRound m e most).2) [46]).1)) ++ [46] ++ (Lib.cut (nText (nRound m e most).1 (nRound m e most).2) [46]).2.1 ++ List.replicate (least - (Lib.cut (nText (nRound m e most).1 (nRound m e most).2) [46]).2.1.length) 48
     else (if comma then groupG (List.replicate (whole - (if (Lib.cut (nText (nRound m e most).1 (nRound m e most).2) [46]).1 = [48] then [] else (Lib.cut (nText (nRound m e most).1 (nRound m e most).2) [46]).1).length) 48 ++ (if (Lib.cut (nText (nRound m e most).1 (nRound m e most).2) [46]).1 = [48] then [] else (Lib.cut (nText (nRound m e most).1 (nRound m e most).2) [46]).1)) else List.replicate (whole - (if (Lib.cut (nText (nRound m e most).1 (nRound m e most).2) [46]).1 = [48] then [] else (Lib.cut (nText (nRound m e most).1 (nRound m e most).2) [46]).1).length) 48 ++ (if (Lib.cut (nText (nRound m e most).1 (nRound m e most).2) [46]).1 = [48] then [] else (Lib.cut (nText (nRound m e most).1 (nRound m e most).2) [46]).1)))) := Lib.hid rfl
  obtain ⟨out, hout⟩ : ∃ out, pPlaces ⟨kind, text, whole, comma, point, most, least⟩ m e = out := ⟨_, rfl⟩
  rw [hout] at HD ⊢
  clear hout hb hRR hR
  generalize (nRound m e most).1 = M at *
  generalize (nRound m e most).2 = E at *
  generalize nText M E = t at *
  generalize (Lib.cut t [46]).1 = A at *
  generalize (Lib.cut t [46]).2.1 = B at *
  generalize (Lib.cut t [46]).2.2 = found at *
  obtain ⟨hA, hB⟩ := hcs
  have HP := Lib.hid hp
  have HM := Lib.hid hm
  clear hp hm
  have HB0 : Hid (PartIn w ⟨kind, text, whole, comma, point, most, least⟩ m e ((w.alloc (.cells (partC ⟨kind, text, whole, comma, point, most, least⟩) 95)).alloc (.cells #[.int .i64 m, .int .i64 e] 23))) := Lib.hid (PartIn.start w _ m e)
  go_enter Tryd.func92, Tryd.ntmps92
  go_wp2_with fail
  refine (CR.out _).mono ?_
  rintro x w1 ⟨rfl, hb⟩
  have H1 := Lib.hid (HB0.out.next hb)
  clear hb HB0 CR
  go_wp2_with fail
  refine (CT.out _ (HP.out.next H1.out.bel)).mono ?_
  rintro x w2 ⟨rfl, hb⟩
  have H2 := Lib.hid (H1.out.next hb)
  clear hb H1 CT HP
  go_wp2_with fail
  refine (CC.out _ (HM.out.next H2.out.bel)).mono ?_
  rintro x w3 ⟨rfl, hb⟩
  have H3 := Lib.hid (H2.out.next hb)
  clear hb H2 CC HM
  go_upto_if 19 with fail
  go_cut [5] (fun v wx => v = .string ⟨(if A = [48] then [] else A : Bs).toArray⟩ ∧ wx = w3)
  case first =>
    cases hc : (A == [48])
    · have h0 : Hid ((if A = [48] then [] else A : Bs) = A) := Lib.hid (if_neg (by rw [beq_eq_false_iff_ne] at hc; exact hc))
      go_wp2_with fail
      go_meet
      exact ⟨by rw [h0.out], rfl⟩
    · have h0 : Hid ((if A = [48] then [] else A : Bs) = []) := Lib.hid (if_pos (by rw [beq_iff_eq] at hc; exact hc))
      go_wp2_with fail
      go_meet
      exact ⟨by rw [h0.out], rfl⟩
  case rest =>
    obtain ⟨rfl, rfl⟩ := hcut
    have hA2 : (if A = [48] then [] else A : Bs).length ≤ 255 := by split; exact Nat.zero_le _; omega
    generalize (if A = [48] then [] else A : Bs) = W0 at *
    have hB2 : B.length ≤ 255 := by omega
    clear hA hsh hB
    have c2 := H3.out.part.cell 2
    have c3 := H3.out.part.cell 3
    have c4 := H3.out.part.cell 4
    have c6 := H3.out.part.cell 6
    simp [partC] at c2 c3 c4 c6
    go_wp2_with fail
    have hmx : max ((whole : Int) - (W0.length : Int)) 0 = ((whole - W0.length : Nat) : Int) := by omega
    rw [hmx]
    clear hmx
    refine (rep_any (whole - W0.length) _ (by omega)).mono ?_
    rintro x w4 ⟨rfl, hb⟩
    have H4 := Lib.hid (H3.out.next hb)
    have hlr : (List.replicate (whole - W0.length) (48 : UInt8)).length ≤ 1000 := by rw [List.length_replicate]; omega
    clear hb H3 c2 c3 c4 c6
    have c3 := H4.out.part.cell 3
    simp [partC] at c3
    generalize hR : List.replicate (whole - W0.length) (48 : UInt8) = R at *
    clear hR
    go_upto_if 30 with fail
    have hW1 : (R ++ W0).length ≤ 1500 := by rw [List.length_append]; omega
    go_cut [5] (fun v wx => v = .string ⟨(if comma = true then groupG (R ++ W0) else R ++ W0 : Bs).toArray⟩ ∧ Hid (PartIn w ⟨kind, text, whole, comma, point, most, least⟩ m e wx))
    case first =>
      cases comma
      · go_wp2_with fail
        go_meet
        exact ⟨rfl, H4⟩
      · go_wp2_with fail
        refine (grouped_any (R ++ W0) _ (by omega)).mono ?_
        rintro x w5 ⟨rfl, hb⟩
        have H5 := Lib.hid (H4.out.next hb)
        clear hb H4
        go_wp2_with fail
        go_meet
        exact ⟨rfl, H5⟩
    case rest =>
      obtain ⟨rfl, H5⟩ := hcut
      have hW2 : (if comma = true then groupG (R ++ W0) else R ++ W0 : Bs).length ≤ 3000 := by
        have := groupG_len (R ++ W0)
        split <;> omega
      clear H4 c3 hlr hW1
      generalize (if comma = true then groupG (R ++ W0) else R ++ W0 : Bs) = W2 at *
      have c4 := H5.out.part.cell 4
      have c6 := H5.out.part.cell 6
      simp [partC] at c4 c6
      cases point
      · have hD : Hid (out = W2) := Lib.hid HD.out
        clear HD
        go_wp2_with fail
        go_ret
        exact ⟨by rw [hD.out]; rfl, H5.out.bel⟩
      · have hD : Hid (out = W2 ++ [46] ++ B ++ List.replicate (least - B.length) 48) := Lib.hid HD.out
        clear HD
        go_wp2_with fail
        have hmx : max ((least : Int) - (B.length : Int)) 0 = ((least - B.length : Nat) : Int) := by omega
        rw [hmx]
        clear hmx
        refine (rep_any (least - B.length) _ (by omega)).mono ?_
        rintro x w6 ⟨rfl, hb⟩
        have HB6 : Hid (Below w.heap.size w w6) := Lib.hid (H5.out.bel.trans (hb.mono H5.out.bel.size))
        have hlr : (List.replicate (least - B.length) (48 : UInt8)).length ≤ 1000 := by rw [List.length_replicate]; omega
        clear hb H5 c4 c6
        generalize List.replicate (least - B.length) (48 : UInt8) = R2 at *
        go_wp2_with fail
        go_ret
        exact ⟨by rw [hD.out]; simp, HB6.out⟩
theorem letter_any (c : UInt8) (w : World) :
    Calls Tryd.prog 88 #[.int .u8 (c.toNat : Int)] w fun e w' => e = .returned (.bool (isLetter c)) ∧ w = w' := by
  go_enter Tryd.func88, Tryd.ntmps88
  go_wp2_with fail
  all_goals go_ret
  all_goals exact ⟨ret_bool (by unfold isLetter; rw [Bool.eq_iff_iff]; simp; omega), rfl⟩
/-- digits' boxes: the result's, and the part's -/
structure DIn (w : World) (p : MP) (w' : World) : Prop where
  res : Lies w' w.heap.size 95 (partC mp0)
  part : Lies w' (w.heap.size + 1) 95 (partC p)
  bel : Below w.heap.size w w'
theorem DIn.start (w : World) (p : MP) : DIn w p ((w.alloc (.cells (partC mp0) 95)).alloc (.cells (partC p) 95)) :=
  ⟨(Lies.new w _ _).alloc _, by have := Lies.new (w.alloc (.cells (partC mp0) 95)) 95 (partC p); simpa using this, ((Below.refl _ w).alloc (Nat.le_refl _) _).alloc (by simp) _⟩
theorem DIn.put {w w' : World} {p p' : MP} (h : DIn w p w') (k : Nat) (u : Value) (hp : (partC p).setIfInBounds k u = partC p') : DIn w p' (w'.setCell ⟨w.heap.size + 1, k, none⟩ u) :=
  ⟨(Below.heap_setCell w' ⟨w.heap.size + 1, k, none⟩ u w.heap.size (by show w.heap.size ≠ w.heap.size + 1; omega)).trans h.res, hp ▸ h.part.put k u, h.bel.setCell (p := ⟨w.heap.size + 1, k, none⟩) (Nat.le_succ _) u⟩
def pD (c : Bool) (n : Nat) : MP := ⟨4, [], n, c, false, 0, 0⟩
def pE (c : Bool) (n most least : Nat) : MP := ⟨4, [], n, c, true, most, least⟩
theorem lies_cells {w : World} {b : Nat} {p : MP} (h : Lies w b 95 (partC p)) : w.cell? ⟨b, 0, none⟩ = some (.int .i64 p.kind) ∧ w.cell? ⟨b, 1, none⟩ = some (.string ⟨p.text.toArray⟩) ∧ w.cell? ⟨b, 2, none⟩ = some (.int .i64 p.whole) ∧ w.cell? ⟨b, 3, none⟩ = some (.bool p.comma) ∧ w.cell? ⟨b, 4, none⟩ = some (.bool p.point) ∧ w.cell? ⟨b, 5, none⟩ = some (.int .i64 p.most) ∧ w.cell? ⟨b, 6, none⟩ = some (.int .i64 p.least) :=
  ⟨h.cell 0, h.cell 1, h.cell 2, h.cell 3, h.cell 4, h.cell 5, h.cell 6⟩
theorem below_put7 {w w' : World} (h : Below w.heap.size w w') (u0 u1 u2 u3 u4 u5 u6 : Value) : Below w.heap.size w (((((((w'.setCell ⟨w.heap.size, 0, none⟩ u0).setCell ⟨w.heap.size, 1, none⟩ u1).setCell ⟨w.heap.size, 2, none⟩ u2).setCell ⟨w.heap.size, 3, none⟩ u3).setCell ⟨w.heap.size, 4, none⟩ u4).setCell ⟨w.heap.size, 5, none⟩ u5).setCell ⟨w.heap.size, 6, none⟩ u6) :=
  ((((((h.setCell (p := ⟨_, _, none⟩) (Nat.le_refl _) u0).setCell (p := ⟨_, _, none⟩) (Nat.le_refl _) u1).setCell (p := ⟨_, _, none⟩) (Nat.le_refl _) u2).setCell (p := ⟨_, _, none⟩) (Nat.le_refl _) u3).setCell (p := ⟨_, _, none⟩) (Nat.le_refl _) u4).setCell (p := ⟨_, _, none⟩) (Nat.le_refl _) u5).setCell (p := ⟨_, _, none⟩) (Nat.le_refl _) u6
def partOut (x : MP × Nat × Int) : Value := .tuple #[partV x.1, .int .i64 x.2.1, .int .i64 x.2.2]
set_option maxRecDepth 100000 in
set_option maxHeartbeats 6400000 in
theorem digits_mask (l : Bs) (w : World) (hl : l.length ≤ 1000000) :
    Calls Tryd.prog 87 #[.string ⟨l.toArray⟩] w fun e w' => e = .returned (partOut (pDigits l)) ∧ Below w.heap.size w w' := by
  have HH := Lib.hid (HInv.start l)
  have HD0 : Hid (DIn w (pD false 0) ((w.alloc (.cells (partC mp0) 95)).alloc (.cells (partC (pD false 0)) 95))) := Lib.hid (DIn.start w _)
  obtain ⟨out, hout⟩ : ∃ out, partOut (pDigits l) = out := ⟨_, rfl⟩
  rw [hout]
  have HOut := Lib.hid hout
  clear hout
  go_enter Tryd.func87, Tryd.ntmps87
  go_upto_block 0 with fail
  go_cut [6] (fun v wx => ∃ (i : Nat) (c : Bool), v = .int .i64 i ∧ Hid (i ≤ l.length) ∧ Hid (hashN false l = (i, c)) ∧ Hid (DIn w (pD c 0) wx))
  case first =>
    go_wp2_with fail
    go_loopw [6] (fun v wr => ∃ (i : Nat) (c : Bool), v = .int .i64 i ∧ Hid (HInv l i c) ∧ Hid (DIn w (pD c 0) wr)) (fun v _ => l.length - (intOf v).toNat)
    case atStart => exact ⟨0, false, rfl, HH, HD0⟩
    case round =>
      obtain ⟨i, c, rfl, hq, hD⟩ := hrel
      clear HH HD0
      have hle := hq.out.1
      have HLE := Lib.hid hle
      have c3 := hD.out.part.cell 3
      have f3 := hD.out.part.frozen 3
      simp [partC, pD] at c3
      by_cases hlt : i < l.length
      · have e35 := at_beq l i 35 35 rfl hlt
        have e44 := at_beq l i 44 44 rfl hlt
        cases h35 : atIs l i 35
        · rw [h35] at e35
          cases h44 : atIs l i 44
          · rw [h44] at e44
            have hst := Lib.hid (hq.out.stop (fun _ => ⟨h35, .inl h44⟩))
            clear hq c3 f3
            go_wp2_with fail
            go_meet
            exact ⟨i, c, rfl, HLE, hst, hD⟩
          · rw [h44] at e44
            by_cases h0 : 0 < i
            · have hst := Lib.hid (hq.out.comma hlt h0 h44)
              have hD2 := Lib.hid (hD.out.put (p' := pD true 0) 3 (.bool true) rfl)
              clear hq hD
              cases c
              all_goals
                go_wp2_with fail
                go_roundw
                case rel => exact ⟨i + 1, true, by go_num, hst, hD2⟩
                case measure => simp [intOf]; omega
            · obtain rfl : i = 0 := by omega
              have hst := Lib.hid (hq.out.stop (fun _ => ⟨h35, .inr rfl⟩))
              clear hq c3 f3 h0
              go_wp2_with fail
              go_meet
              exact ⟨0, c, rfl, HLE, hst, hD⟩
        · rw [h35] at e35
          have h44 := at_excl h35 (show (35 : UInt8) ≠ 44 by decide)
          rw [h44] at e44
          have hst := Lib.hid (hq.out.hash hlt h35)
          have hD2 := Lib.hid (hD.out.put (p' := pD c 0) 3 (.bool c) rfl)
          clear hq hD
          cases c
          all_goals
            go_wp2_with fail
            go_roundw
            case rel => exact ⟨i + 1, _, by go_num, hst, hD2⟩
            case measure => simp [intOf]; omega
      · have hst := Lib.hid (hq.out.stop (fun h => absurd h hlt))
        clear hq c3 f3
        go_wp2_with fail
        go_meet
        exact ⟨i, c, rfl, HLE, hst, hD⟩
  case rest =>
    obtain ⟨a, ca, rfl, hle, hH, hDa⟩ := hcut
    clear HH HD0
    have hleA := hle.out
    have HZ := Lib.hid (ZInv.start l a hleA)
    have HDZ : Hid (DIn w (pD (ca || false) 0) wc) := Lib.hid (by rw [Bool.or_false]; exact hDa.out)
    clear hDa hle
    go_upto_block 2 with fail
    go_cut [6] (fun v wx => ∃ (i : Nat) (c : Bool) (n : Nat), v = .int .i64 i ∧ Hid (a ≤ i) ∧ Hid (i ≤ l.length) ∧ Hid (n ≤ i) ∧ Hid (zeroN (decide (0 < a)) (l.drop a) = (i - a, c, n)) ∧ Hid (DIn w (pD (ca || c) n) wx))
    case first =>
      go_wp2_with fail
      go_loopw [6] (fun v wr => ∃ (i : Nat) (c : Bool) (n : Nat), v = .int .i64 i ∧ Hid (ZInv l a i c n) ∧ Hid (DIn w (pD (ca || c) n) wr)) (fun v _ => l.length - (intOf v).toNat)
      case atStart => exact ⟨a, false, 0, rfl, HZ, HDZ⟩
      case round =>
        obtain ⟨i, c, n, rfl, hq, hD⟩ := hrel
        clear HZ HDZ
        have hle := hq.out.2.1
        have hn := hq.out.2.2.1
        have HAL := Lib.hid hq.out.1
        have HLE := Lib.hid hle
        have HN := Lib.hid hn
        have c3 := hD.out.part.cell 3
        have f3 := hD.out.part.frozen 3
        have c2 := hD.out.part.cell 2
        have f2 := hD.out.part.frozen 2
        simp [partC, pD] at c3 c2
        by_cases hlt : i < l.length
        · have e48 := at_beq l i 48 48 rfl hlt
          have e44 := at_beq l i 44 44 rfl hlt
          cases h48 : atIs l i 48
          · rw [h48] at e48
            cases h44 : atIs l i 44
            · rw [h44] at e44
              have hst := Lib.hid (hq.out.stop (fun _ => ⟨h48, .inl h44⟩))
              clear hq c3 f3 c2 f2
              go_wp2_with fail
              go_meet
              exact ⟨i, c, n, rfl, HAL, HLE, HN, hst, hD⟩
            · rw [h44] at e44
              by_cases h0 : 0 < i
              · have hst := Lib.hid (hq.out.comma hlt h0 h44)
                have hD2 : Hid (DIn w (pD (ca || true) n) (wr.setCell ⟨w.heap.size + 1, 3, none⟩ (.bool true))) := Lib.hid (hD.out.put (p' := pD (ca || true) n) 3 (.bool true) (by rw [Bool.or_true]; rfl))
                clear hq hD
                cases ca <;> cases c
                all_goals
                  go_wp2_with fail
                  go_roundw
                  case rel => exact ⟨i + 1, true, n, by go_num, hst, hD2⟩
                  case measure => simp [intOf]; omega
              · obtain rfl : i = 0 := by omega
                have hst := Lib.hid (hq.out.stop (fun _ => ⟨h48, .inr rfl⟩))
                clear hq c3 f3 c2 f2 h0
                go_wp2_with fail
                go_meet
                exact ⟨0, c, n, rfl, HAL, HLE, HN, hst, hD⟩
          · rw [h48] at e48
            have h44 := at_excl h48 (show (48 : UInt8) ≠ 44 by decide)
            rw [h44] at e44
            have hst := Lib.hid (hq.out.zero hlt h48)
            have hD2 : Hid (DIn w (pD (ca || c) (n + 1)) ((wr.setCell ⟨w.heap.size + 1, 3, none⟩ (.bool (ca || c))).setCell ⟨w.heap.size + 1, 2, none⟩ (.int .i64 ((n + 1 : Nat) : Int)))) := Lib.hid ((hD.out.put (p' := pD (ca || c) n) 3 (.bool (ca || c)) rfl).put (p' := pD (ca || c) (n + 1)) 2 (.int .i64 ((n + 1 : Nat) : Int)) rfl)
            clear hq hD
            cases ca <;> cases c
            all_goals
              go_wp2_with fail
              go_roundw
              case rel => exact ⟨i + 1, _, n + 1, by go_num, hst, hD2⟩
              case measure => simp [intOf]; omega
        · have hst := Lib.hid (hq.out.stop (fun h => absurd h hlt))
          clear hq c3 f3 c2 f2
          go_wp2_with fail
          go_meet
          exact ⟨i, c, n, rfl, HAL, HLE, HN, hst, hD⟩
    case rest =>
      obtain ⟨i, cz, n, rfl, hai, hil, hni, hZ, hD⟩ := hcut
      clear HZ HDZ hleA
      have hpd : pDigits l = if atIs l i 46 = true then (if i = 0 ∧ runP (fun c => c == 48) (l.drop (i + 1)) + runP (fun c => c == 35) (l.drop (i + 1 + runP (fun c => c == 48) (l.drop (i + 1)))) = 0 then (mp0, 0, 6) else (pE (ca || cz) n (runP (fun c => c == 48) (l.drop (i + 1)) + runP (fun c => c == 35) (l.drop (i + 1 + runP (fun c => c == 48) (l.drop (i + 1))))) (runP (fun c => c == 48) (l.drop (i + 1))), i + 1 + runP (fun c => c == 48) (l.drop (i + 1)) + runP (fun c => c == 35) (l.drop (i + 1 + runP (fun c => c == 48) (l.drop (i + 1)))), 0)) else (pD (ca || cz) n, i, 0) := by
        unfold pDigits
        rw [hH.out]
        dsimp only
        rw [hZ.out]
        dsimp only
        rw [show a + (i - a) = i by have := hai.out; omega]
        rfl
      have HPD := Lib.hid hpd
      clear hpd hZ hH
      generalize (ca || cz) = c at *
      have hile := hil.out
      have hnle := hni.out
      clear hai hni
      cases h46 : atIs l i 46
      · have hres : Hid (out = .tuple #[partV (pD c n), .int .i64 i, .int .i64 0]) := Lib.hid (by rw [← HOut.out, HPD.out, h46, if_neg (by decide)]; rfl)
        clear HPD HOut
        obtain ⟨p0, p1, p2, p3, p4, p5, p6⟩ := lies_cells hD.out.part
        obtain ⟨r0, r1, r2, r3, r4, r5, r6⟩ := lies_cells hD.out.res
        have RF := hD.out.res
        have rf0 := RF.frozen 0
        have rf1 := RF.frozen 1
        have rf2 := RF.frozen 2
        have rf3 := RF.frozen 3
        have rf4 := RF.frozen 4
        have rf5 := RF.frozen 5
        have rf6 := RF.frozen 6
        have rlt := RF.lt
        have HB := Lib.hid hD.out.bel
        clear RF
        simp only [pD] at *
        by_cases hlt : i < l.length
        · have e46 := at_bne l i 46 46 rfl hlt
          rw [h46] at e46
          go_wp2_with fail
          refine bodyPost_ret (v := .tuple #[.agg #[.int .i64 4, .string ⟨#[]⟩, .int .i64 n, .bool c, .bool false, .int .i64 0, .int .i64 0], .int .i64 (i : Nat), .int .i64 0]) (by simp [results, Tryd.results87, go_sem, r0, r1, r2, r3, r4, r5, r6]) rfl ?_
          exact ⟨by rw [hres.out]; rfl, below_put7 HB.out _ _ _ _ _ _ _⟩
        · have eil : ((i : Int) == (l.length : Int)) = true := by rw [beq_iff_eq]; omega
          go_wp2_with fail
          refine bodyPost_ret (v := .tuple #[.agg #[.int .i64 4, .string ⟨#[]⟩, .int .i64 n, .bool c, .bool false, .int .i64 0, .int .i64 0], .int .i64 (i : Nat), .int .i64 0]) (by simp [results, Tryd.results87, go_sem, r0, r1, r2, r3, r4, r5, r6]) rfl ?_
          exact ⟨by rw [hres.out]; rfl, below_put7 HB.out _ _ _ _ _ _ _⟩
      · have hlt := at_lt _ _ _ h46
        rw [h46, if_pos rfl] at HPD
        have e46 := at_bne l i 46 46 rfl hlt
        rw [h46] at e46
        have c4 := hD.out.part.cell 4
        have f4 := hD.out.part.frozen 4
        simp [partC, pD] at c4
        have hD4 := Lib.hid (hD.out.put (p' := pE c n 0 0) 4 (.bool true) rfl)
        have HR := Lib.hid (RInv.start l 48 (i + 1) hlt)
        clear hD
        go_upto_block 4 with fail
        go_cut [6] (fun v wx => ∃ (q z : Nat), v = .int .i64 (q : Int) ∧ Hid (q = i + 1 + z) ∧ Hid (q ≤ l.length) ∧ Hid (runP (fun c => c == 48) (l.drop (i + 1)) = z) ∧ Hid (DIn w (pE c n 0 z) wx))
        case first =>
          go_wp2_with fail
          clear HPD HOut
          go_loopw [6] (fun v wr => ∃ (k j : Nat), v = .int .i64 (k : Int) ∧ Hid (k = i + 1 + j) ∧ Hid (RInv l 48 (i + 1) k) ∧ Hid (DIn w (pE c n 0 j) wr)) (fun v _ => l.length - (intOf v).toNat)
          case atStart => exact ⟨i + 1, 0, by go_num, Lib.hid rfl, HR, hD4⟩
          case round =>
            obtain ⟨k, j, rfl, hkj, hq, hD⟩ := hrel
            clear HR hD4
            have hle := hq.out.2.1
            have HLE := Lib.hid hle
            have c6 := hD.out.part.cell 6
            have f6 := hD.out.part.frozen 6
            simp [partC, pE] at c6
            by_cases hj : k < l.length
            · have e48 := at_beq l k 48 48 rfl hj
              cases h48 : atIs l k 48
              · rw [h48] at e48
                have hst := Lib.hid (hq.out.stop (fun _ => h48))
                clear hq c6 f6
                rw [hkj.out, Nat.add_sub_cancel_left] at hst
                go_wp2_with fail
                go_meet
                exact ⟨k, j, rfl, hkj, HLE, hst, hD⟩
              · rw [h48] at e48
                have hst := Lib.hid (hq.out.step hj h48)
                have hjb : j ≤ 1000000 := by have := hkj.out; omega
                have hD2 := Lib.hid (hD.out.put (p' := pE c n 0 (j + 1)) 6 (.int .i64 ((j : Int) + 1)) (by simp [partC, pE]))
                clear hq hD
                go_wp2_with fail
                go_roundw
                case rel => exact ⟨k + 1, j + 1, by go_num, Lib.hid (by have := hkj.out; omega), hst, hD2⟩
                case measure => simp [intOf]; omega
            · have hst := Lib.hid (hq.out.stop (fun h => absurd h hj))
              clear hq c6 f6
              rw [hkj.out, Nat.add_sub_cancel_left] at hst
              go_wp2_with fail
              go_meet
              exact ⟨k, j, rfl, hkj, HLE, hst, hD⟩
        case rest =>
          obtain ⟨q, z, rfl, hqz, hzl, hz, hD⟩ := hcut
          clear HR hD4 c4 f4
          rw [hz.out, ← hqz.out] at HPD
          clear hz
          have hzle := hzl.out
          have c5 := hD.out.part.cell 5
          have f5 := hD.out.part.frozen 5
          have c6 := hD.out.part.cell 6
          simp [partC, pE] at c5 c6
          have hD5 : Hid (DIn w (pE c n (z + 0) z) (wc.setCell ⟨w.heap.size + 1, 5, none⟩ (.int .i64 (z : Int)))) := Lib.hid (hD.out.put (p' := pE c n (z + 0) z) 5 (.int .i64 (z : Int)) rfl)
          have HR := Lib.hid (RInv.start l 35 q hzl.out)
          clear hD
          go_upto_block 6 with fail
          go_cut [6] (fun v wx => ∃ (q2 h : Nat), v = .int .i64 (q2 : Int) ∧ Hid (q2 = q + h) ∧ Hid (q2 ≤ l.length) ∧ Hid (runP (fun c => c == 35) (l.drop q) = h) ∧ Hid (DIn w (pE c n (z + h) z) wx))
          case first =>
            go_wp2_with fail
            clear HPD HOut c5 f5 c6
            go_loopw [6] (fun v wr => ∃ (k j : Nat), v = .int .i64 (k : Int) ∧ Hid (k = q + j) ∧ Hid (RInv l 35 q k) ∧ Hid (DIn w (pE c n (z + j) z) wr)) (fun v _ => l.length - (intOf v).toNat)
            case atStart => exact ⟨q, 0, rfl, Lib.hid rfl, HR, hD5⟩
            case round =>
              obtain ⟨k, j, rfl, hkj, hq, hD⟩ := hrel
              clear HR hD5
              have hle := hq.out.2.1
              have HLE := Lib.hid hle
              have c5 := hD.out.part.cell 5
              have f5 := hD.out.part.frozen 5
              simp [partC, pE] at c5
              by_cases hj : k < l.length
              · have e35 := at_beq l k 35 35 rfl hj
                cases h35 : atIs l k 35
                · rw [h35] at e35
                  have hst := Lib.hid (hq.out.stop (fun _ => h35))
                  clear hq c5 f5
                  rw [hkj.out, Nat.add_sub_cancel_left] at hst
                  go_wp2_with fail
                  go_meet
                  exact ⟨k, j, rfl, hkj, HLE, hst, hD⟩
                · rw [h35] at e35
                  have hst := Lib.hid (hq.out.step hj h35)
                  have hjb : j ≤ 1000000 ∧ z ≤ 1000000 := by have := hkj.out; have := hqz.out; omega
                  have hD2 := Lib.hid (hD.out.put (p' := pE c n (z + (j + 1)) z) 5 (.int .i64 ((z : Int) + (j : Int) + 1)) (by simp [partC, pE]; omega))
                  obtain ⟨hjb1, hjb2⟩ := hjb
                  clear hq hD
                  go_wp2_with fail
                  go_roundw
                  case rel => exact ⟨k + 1, j + 1, by go_num, Lib.hid (by have := hkj.out; omega), hst, hD2⟩
                  case measure => simp [intOf]; omega
              · have hst := Lib.hid (hq.out.stop (fun h => absurd h hj))
                clear hq c5 f5
                rw [hkj.out, Nat.add_sub_cancel_left] at hst
                go_wp2_with fail
                go_meet
                exact ⟨k, j, rfl, hkj, HLE, hst, hD⟩
          case rest =>
            obtain ⟨q2, h, rfl, hqh, hhl, hh, hD⟩ := hcut
            clear HR hD5 c5 f5 c6
            rw [hh.out, ← hqh.out] at HPD
            clear hh
            have hhle := hhl.out
            obtain ⟨p0, p1, p2, p3, p4, p5, p6⟩ := lies_cells hD.out.part
            obtain ⟨r0, r1, r2, r3, r4, r5, r6⟩ := lies_cells hD.out.res
            have RF := hD.out.res
            have rf0 := RF.frozen 0
            have rf1 := RF.frozen 1
            have rf2 := RF.frozen 2
            have rf3 := RF.frozen 3
            have rf4 := RF.frozen 4
            have rf5 := RF.frozen 5
            have rf6 := RF.frozen 6
            have rlt := RF.lt
            have HB := Lib.hid hD.out.bel
            clear RF
            simp only [pE] at p0 p1 p2 p3 p4 p5 p6
            by_cases hi0 : i = 0
            · subst hi0
              by_cases hzh : z + h = 0
              · have hres : Hid (out = .tuple #[partV mp0, .int .i64 0, .int .i64 6]) := Lib.hid (by rw [← HOut.out, HPD.out, if_pos ⟨rfl, hzh⟩]; rfl)
                have ezh : (((z + h : Nat) : Int) == 0) = true := by rw [beq_iff_eq]; omega
                clear HPD HOut
                go_wp2_with fail
                refine bodyPost_ret (v := .tuple #[.agg #[.int .i64 0, .string ⟨#[]⟩, .int .i64 0, .bool false, .bool false, .int .i64 0, .int .i64 0], .int .i64 (0), .int .i64 6]) (by simp [results, Tryd.results87, go_sem, r0, r1, r2, r3, r4, r5, r6]) rfl ?_
                exact ⟨by rw [hres.out]; rfl, below_put7 HB.out _ _ _ _ _ _ _⟩
              · have hres : Hid (out = .tuple #[partV (pE c n (z + h) z), .int .i64 (q2 : Int), .int .i64 0]) := Lib.hid (by rw [← HOut.out, HPD.out, if_neg (fun g => hzh g.2)]; rfl)
                have ezh : (((z + h : Nat) : Int) == 0) = false := by rw [beq_eq_false_iff_ne]; omega
                clear HPD HOut
                go_wp2_with fail
                refine bodyPost_ret (v := .tuple #[.agg #[.int .i64 4, .string ⟨#[]⟩, .int .i64 n, .bool c, .bool true, .int .i64 ((z + h : Nat) : Int), .int .i64 z], .int .i64 (q2 : Int), .int .i64 0]) (by simp [results, Tryd.results87, go_sem, r0, r1, r2, r3, r4, r5, r6]) rfl ?_
                exact ⟨by rw [hres.out]; rfl, below_put7 HB.out _ _ _ _ _ _ _⟩
            · have hres : Hid (out = .tuple #[partV (pE c n (z + h) z), .int .i64 (q2 : Int), .int .i64 0]) := Lib.hid (by rw [← HOut.out, HPD.out, if_neg (fun g => hi0 g.1)]; rfl)
              have ei0 : ((i : Int) == 0) = false := by rw [beq_eq_false_iff_ne]; omega
              clear HPD HOut
              go_wp2_with fail
              refine bodyPost_ret (v := .tuple #[.agg #[.int .i64 4, .string ⟨#[]⟩, .int .i64 n, .bool c, .bool true, .int .i64 ((z + h : Nat) : Int), .int .i64 z], .int .i64 (q2 : Int), .int .i64 0]) (by simp [results, Tryd.results87, go_sem, r0, r1, r2, r3, r4, r5, r6]) rfl ?_
              exact ⟨by rw [hres.out]; rfl, below_put7 HB.out _ _ _ _ _ _ _⟩
/-- the result's box alone -/
structure RIn (w w' : World) : Prop where
  res : Lies w' w.heap.size 95 (partC mp0)
  bel : Below w.heap.size w w'
theorem RIn.start (w : World) : RIn w (w.alloc (.cells (partC mp0) 95)) := ⟨Lies.new w _ _, (Below.refl _ w).alloc (Nat.le_refl _) _⟩
theorem RIn.next {w w' w'' : World} (h : RIn w w') (hb : Below w'.heap.size w' w'') : RIn w w'' := ⟨Lies.below h.res hb, h.bel.trans (hb.mono h.bel.size)⟩
theorem plainC_cases {c : UInt8} (h : plainC c = true) : c = 32 ∨ c = 36 ∨ c = 45 ∨ c = 43 ∨ c = 40 ∨ c = 41 ∨ c = 47 ∨ c = 58 := by
  unfold plainC at h
  simp only [Bool.or_eq_true, beq_iff_eq] at h
  rcases h with ((((((h | h) | h) | h) | h) | h) | h) | h <;> simp [h]
theorem u8_ne {c d : UInt8} (h : c ≠ d) (n : Int) (hn : (d.toNat : Int) = n) : ((c.toNat : Int) == n) = false := by
  rw [beq_eq_false_iff_ne]
  intro e
  exact h (UInt8.toNat.inj (by omega))
theorem plainC_none {c : UInt8} (h : plainC c = false) : c ≠ 32 ∧ c ≠ 36 ∧ c ≠ 45 ∧ c ≠ 43 ∧ c ≠ 40 ∧ c ≠ 41 ∧ c ≠ 47 ∧ c ≠ 58 := by
  unfold plainC at h
  simp only [Bool.or_eq_false_iff, beq_eq_false_iff_ne] at h
  obtain ⟨⟨⟨⟨⟨⟨⟨h1, h2⟩, h3⟩, h4⟩, h5⟩, h6⟩, h7⟩, h8⟩ := h
  exact ⟨h1, h2, h3, h4, h5, h6, h7, h8⟩
set_option maxRecDepth 100000 in
set_option maxHeartbeats 6400000 in
theorem next_any (c : UInt8) (t : Bs) (w : World) (hl : (c :: t).length ≤ 1000000) :
    Calls Tryd.prog 57 #[.string ⟨(c :: t).toArray⟩] w fun e w' => e = .returned (partOut (pNext (c :: t))) ∧ Below w.heap.size w w' := by
  rw [List.length_cons] at hl
  have HR0 := Lib.hid (RIn.start w)
  obtain ⟨out, hout⟩ : ∃ out, partOut (pNextC c t) = out := ⟨_, rfl⟩
  rw [show pNext (c :: t) = pNextC c t from rfl, hout]
  have HOut := Lib.hid hout
  clear hout
  by_cases h34 : c = 34
  · subst h34
    have HI := Lib.hid (fun W => indexByte_any t 34 W)
    by_cases hx : 0 ≤ Lib.indexByte t 34
    · obtain ⟨n, hn, hnl, -, -⟩ := idx_yes t 34 hx
      have hres : Hid (out = .tuple #[partV { mp0 with text := t.take n }, .int .i64 ((n : Int) + 2), .int .i64 0]) := Lib.hid (by
        rw [← HOut.out]
        unfold pNextC
        rw [if_pos rfl, if_pos hx, hn]
        rfl)
      rw [hn] at HI
      clear HOut hx hn
      go_enter Tryd.func57, Tryd.ntmps57
      go_wp2_with fail
      refine (HI.out _).mono ?_
      rintro e w1 ⟨rfl, rfl⟩
      go_wp2_with fail
      refine bodyPost_ret (v := .tuple #[.agg #[.int .i64 0, .string ⟨(t.take n).toArray⟩, .int .i64 0, .bool false, .bool false, .int .i64 0, .int .i64 0], .int .i64 ((n : Int) + 2), .int .i64 0]) (by simp [results, Tryd.results57, go_sem]) rfl ?_
      exact ⟨by rw [hres.out]; rfl, (Below.refl _ w).alloc (Nat.le_refl _) _⟩
    · have hres : Hid (out = .tuple #[partV mp0, .int .i64 0, .int .i64 13]) := Lib.hid (by
        rw [← HOut.out]
        unfold pNextC
        rw [if_pos rfl, if_neg hx]
        rfl)
      clear HOut
      generalize Lib.indexByte t 34 = n at *
      have hx2 : n < 0 := by omega
      clear hx
      go_enter Tryd.func57, Tryd.ntmps57
      go_wp2_with fail
      refine (HI.out _).mono ?_
      rintro e w1 ⟨rfl, rfl⟩
      go_wp2_with fail
      refine bodyPost_ret (v := .tuple #[.agg #[.int .i64 0, .string ⟨#[]⟩, .int .i64 0, .bool false, .bool false, .int .i64 0, .int .i64 0], .int .i64 0, .int .i64 13]) (by simp [results, Tryd.results57, go_sem]) rfl ?_
      exact ⟨by rw [hres.out]; rfl, (Below.refl _ w).alloc (Nat.le_refl _) _⟩
  have b34 := u8_ne h34 34 rfl
  by_cases h92 : c = 92
  · subst h92
    cases t with
    | nil =>
      have hres : Hid (out = .tuple #[partV mp0, .int .i64 0, .int .i64 13]) := Lib.hid (by rw [← HOut.out]; rfl)
      clear HOut
      go_enter Tryd.func57, Tryd.ntmps57
      go_wp2_with fail
      refine bodyPost_ret (v := .tuple #[.agg #[.int .i64 0, .string ⟨#[]⟩, .int .i64 0, .bool false, .bool false, .int .i64 0, .int .i64 0], .int .i64 0, .int .i64 13]) (by simp [results, Tryd.results57, go_sem]) rfl ?_
      exact ⟨by rw [hres.out]; rfl, (Below.refl _ w).alloc (Nat.le_refl _) _⟩
    | cons d r =>
      have hres : Hid (out = .tuple #[partV { mp0 with text := [d] }, .int .i64 2, .int .i64 0]) := Lib.hid (by rw [← HOut.out]; rfl)
      rw [List.length_cons] at hl
      clear HOut
      go_enter Tryd.func57, Tryd.ntmps57
      go_wp2_with fail
      refine bodyPost_ret (v := .tuple #[.agg #[.int .i64 0, .string ⟨#[d]⟩, .int .i64 0, .bool false, .bool false, .int .i64 0, .int .i64 0], .int .i64 2, .int .i64 0]) (by simp [results, Tryd.results57, go_sem]) rfl ?_
      exact ⟨by rw [hres.out]; rfl, (Below.refl _ w).alloc (Nat.le_refl _) _⟩
  have b92 := u8_ne h92 92 rfl
  cases hp : plainC c
  case true =>
    have hres : Hid (out = .tuple #[partV { mp0 with text := [c] }, .int .i64 1, .int .i64 0]) := Lib.hid (by
      rw [← HOut.out]
      unfold pNextC
      rw [if_neg h34, if_neg h92, if_pos hp]
      rfl)
    clear HOut
    rcases plainC_cases hp with rfl | rfl | rfl | rfl | rfl | rfl | rfl | rfl
    all_goals
      clear hp h34 h92 b34 b92
      go_enter Tryd.func57, Tryd.ntmps57
      go_wp2_with fail
      refine bodyPost_ret (v := out) (by rw [hres.out]; simp [results, Tryd.results57, go_sem, mp0]) rfl ?_
      exact ⟨rfl, (Below.refl _ w).alloc (Nat.le_refl _) _⟩
  obtain ⟨n32, n36, n45, n43, n40, n41, n47, n58⟩ := plainC_none hp
  have b32 := u8_ne n32 32 rfl
  have b36 := u8_ne n36 36 rfl
  have b45 := u8_ne n45 45 rfl
  have b43 := u8_ne n43 43 rfl
  have b40 := u8_ne n40 40 rfl
  have b41 := u8_ne n41 41 rfl
  have b47 := u8_ne n47 47 rfl
  have b58 := u8_ne n58 58 rfl
  clear n32 n36 n45 n43 n40 n41 n47 n58
  by_cases h37 : c = 37
  · subst h37
    have hres : Hid (out = .tuple #[partV { mp0 with kind := 1, text := [37] }, .int .i64 1, .int .i64 0]) := Lib.hid (by rw [← HOut.out]; rfl)
    clear HOut hp h34 h92
    go_enter Tryd.func57, Tryd.ntmps57
    go_wp2_with fail
    refine bodyPost_ret (v := .tuple #[.agg #[.int .i64 1, .string ⟨#[37]⟩, .int .i64 0, .bool false, .bool false, .int .i64 0, .int .i64 0], .int .i64 1, .int .i64 0]) (by simp [results, Tryd.results57, go_sem]) rfl ?_
    exact ⟨by rw [hres.out]; rfl, (Below.refl _ w).alloc (Nat.le_refl _) _⟩
  have b37 := u8_ne h37 37 rfl
  by_cases h64 : c = 64
  · subst h64
    have hres : Hid (out = .tuple #[partV { mp0 with kind := 2 }, .int .i64 1, .int .i64 0]) := Lib.hid (by rw [← HOut.out]; rfl)
    clear HOut hp h34 h92 h37
    go_enter Tryd.func57, Tryd.ntmps57
    go_wp2_with fail
    refine bodyPost_ret (v := .tuple #[.agg #[.int .i64 2, .string ⟨#[]⟩, .int .i64 0, .bool false, .bool false, .int .i64 0, .int .i64 0], .int .i64 1, .int .i64 0]) (by simp [results, Tryd.results57, go_sem]) rfl ?_
    exact ⟨by rw [hres.out]; rfl, (Below.refl _ w).alloc (Nat.le_refl _) _⟩
  have b64 := u8_ne h64 64 rfl
  by_cases hdg : c = 35 ∨ c = 48 ∨ c = 46
  · have hres : Hid (out = partOut (pDigits (c :: t))) := Lib.hid (by
      rw [← HOut.out]
      unfold pNextC
      rw [if_neg h34, if_neg h92, hp, if_neg (by decide), if_neg h37, if_neg h64, if_pos hdg])
    have CD := Lib.hid (fun W => digits_mask (c :: t) W (by rw [List.length_cons]; exact hl))
    clear HOut hp h34 h92 h37 h64
    rcases hdg with rfl | rfl | rfl
    all_goals
      go_enter Tryd.func57, Tryd.ntmps57
      go_wp2_with fail
      refine (CD.out _).mono ?_
      rintro e w1 ⟨rfl, hb⟩
      have HR1 := Lib.hid (HR0.out.next hb)
      clear hb HR0 CD
      obtain ⟨r0, r1, r2, r3, r4, r5, r6⟩ := lies_cells HR1.out.res
      have RF := HR1.out.res
      have rf0 := RF.frozen 0
      have rf1 := RF.frozen 1
      have rf2 := RF.frozen 2
      have rf3 := RF.frozen 3
      have rf4 := RF.frozen 4
      have rf5 := RF.frozen 5
      have rf6 := RF.frozen 6
      have rlt := RF.lt
      have HB := Lib.hid HR1.out.bel
      clear RF
      generalize pDigits _ = d at *
      obtain ⟨⟨k, x, a1, a2, a3, a4, a5⟩, n, er⟩ := d
      unfold partOut
      go_wp2_with fail
      refine bodyPost_ret (v := .tuple #[.agg #[.int .i64 k, .string ⟨x.toArray⟩, .int .i64 a1, .bool a2, .bool a3, .int .i64 a4, .int .i64 a5], .int .i64 n, .int .i64 er]) (by simp [results, Tryd.results57, go_sem, r0, r1, r2, r3, r4, r5, r6]) rfl ?_
      exact ⟨by rw [hres.out]; rfl, below_put7 HB.out _ _ _ _ _ _ _⟩
  have b35 := u8_ne (fun h => hdg (.inl h)) 35 rfl
  have b48 := u8_ne (fun h => hdg (.inr (.inl h))) 48 rfl
  have b46 := u8_ne (fun h => hdg (.inr (.inr h))) 46 rfl
  have hpn : Hid (out = partOut (if isGen (c :: t) = true then ({ mp0 with kind := 3 }, 7, 0) else (mp0, 0, 6))) := Lib.hid (by
    rw [← HOut.out]
    unfold pNextC
    rw [if_neg h34, if_neg h92, hp, if_neg (by decide), if_neg h37, if_neg h64, if_neg hdg])
  clear HOut hp h34 h92 h37 h64 hdg
  have hlc : (c :: t).length = t.length + 1 := rfl
  by_cases h7 : t.length + 1 < 7
  · have hres : Hid (out = .tuple #[partV mp0, .int .i64 0, .int .i64 6]) := Lib.hid (by
      rw [hpn.out]
      have hg : isGen (c :: t) = false := by unfold isGen; rw [hlc, decide_eq_true h7]; rfl
      rw [hg]
      rfl)
    clear hpn hlc
    go_enter Tryd.func57, Tryd.ntmps57
    go_wp2_with fail
    refine bodyPost_ret (v := .tuple #[.agg #[.int .i64 0, .string ⟨#[]⟩, .int .i64 0, .bool false, .bool false, .int .i64 0, .int .i64 0], .int .i64 0, .int .i64 6]) (by simp [results, Tryd.results57, go_sem]) rfl ?_
    exact ⟨by rw [hres.out]; rfl, (Below.refl _ w).alloc (Nat.le_refl _) _⟩
  have CF := Lib.hid (fun W => fold_any (c :: t.take 6) W (by rw [List.length_cons, List.length_take]; unfold maxLen; omega))
  have hgd : isGen (c :: t) = ((pFold (c :: t.take 6) == generalW) && !(decide (7 < t.length + 1) && (((c :: t)[7]?).map isLetter).getD false)) := by
    unfold isGen
    rw [hlc, decide_eq_false h7]
    rfl
  rw [hgd] at hpn
  clear hgd hlc
  generalize hF : pFold (c :: t.take 6) = F at *
  clear hF
  go_enter Tryd.func57, Tryd.ntmps57
  go_wp2_with fail
  refine (CF.out _).mono ?_
  rintro e w1 ⟨rfl, hb⟩
  have HR1 := Lib.hid (HR0.out.next hb)
  clear hb HR0 CF
  obtain ⟨r0, r1, r2, r3, r4, r5, r6⟩ := lies_cells HR1.out.res
  have RF := HR1.out.res
  have rf0 := RF.frozen 0
  have rf1 := RF.frozen 1
  have rf2 := RF.frozen 2
  have rf3 := RF.frozen 3
  have rf4 := RF.frozen 4
  have rf5 := RF.frozen 5
  have rf6 := RF.frozen 6
  have rlt := RF.lt
  have HB := Lib.hid HR1.out.bel
  clear RF
  simp only [mp0] at r0 r1 r2 r3 r4 r5 r6
  cases hg : (F == [71, 69, 78, 69, 82, 65, 76])
  · have hres : Hid (out = .tuple #[partV mp0, .int .i64 0, .int .i64 6]) := Lib.hid (by rw [hpn.out, show (F == generalW) = false from hg]; rfl)
    clear hpn
    go_wp2_with fail
    refine bodyPost_ret (v := .tuple #[.agg #[.int .i64 0, .string ⟨#[]⟩, .int .i64 0, .bool false, .bool false, .int .i64 0, .int .i64 0], .int .i64 0, .int .i64 6]) (by simp [results, Tryd.results57, go_sem, r0, r1, r2, r3, r4, r5, r6]) rfl ?_
    exact ⟨by rw [hres.out]; rfl, below_put7 HB.out _ _ _ _ _ _ _⟩
  by_cases h8 : 7 < t.length + 1
  · have h6 : 6 < t.length := by omega
    have e6 : (c :: t)[7]? = some t[6] := by rw [List.getElem?_cons_succ, List.getElem?_eq_getElem h6]
    rw [show (F == generalW) = true from hg, decide_eq_true h8, e6] at hpn
    cases hlt : isLetter t[6]
    · have hres : Hid (out = .tuple #[partV { mp0 with kind := 3 }, .int .i64 7, .int .i64 0]) := Lib.hid (by rw [hpn.out]; simp [hlt, partOut])
      have CL := Lib.hid (fun W => letter_any t[6] W)
      rw [hlt] at CL
      clear hpn e6
      go_wp2_with fail
      refine (CL.out _).mono ?_
      rintro e w2 ⟨rfl, rfl⟩
      go_wp2_with fail
      refine bodyPost_ret (v := .tuple #[.agg #[.int .i64 3, .string ⟨#[]⟩, .int .i64 0, .bool false, .bool false, .int .i64 0, .int .i64 0], .int .i64 7, .int .i64 0]) (by simp [results, Tryd.results57, go_sem, r0, r1, r2, r3, r4, r5, r6]) rfl ?_
      exact ⟨by rw [hres.out]; rfl, below_put7 HB.out _ _ _ _ _ _ _⟩
    · have hres : Hid (out = .tuple #[partV mp0, .int .i64 0, .int .i64 6]) := Lib.hid (by rw [hpn.out]; simp [hlt, partOut])
      have CL := Lib.hid (fun W => letter_any t[6] W)
      rw [hlt] at CL
      clear hpn e6
      go_wp2_with fail
      refine (CL.out _).mono ?_
      rintro e w2 ⟨rfl, rfl⟩
      go_wp2_with fail
      refine bodyPost_ret (v := .tuple #[.agg #[.int .i64 0, .string ⟨#[]⟩, .int .i64 0, .bool false, .bool false, .int .i64 0, .int .i64 0], .int .i64 0, .int .i64 6]) (by simp [results, Tryd.results57, go_sem, r0, r1, r2, r3, r4, r5, r6]) rfl ?_
      exact ⟨by rw [hres.out]; rfl, below_put7 HB.out _ _ _ _ _ _ _⟩
  · rw [show (F == generalW) = true from hg, decide_eq_false h8] at hpn
    have hres : Hid (out = .tuple #[partV { mp0 with kind := 3 }, .int .i64 7, .int .i64 0]) := Lib.hid (by rw [hpn.out]; simp [partOut])
    clear hpn
    go_wp2_with fail
    refine bodyPost_ret (v := .tuple #[.agg #[.int .i64 3, .string ⟨#[]⟩, .int .i64 0, .bool false, .bool false, .int .i64 0, .int .i64 0], .int .i64 7, .int .i64 0]) (by simp [results, Tryd.results57, go_sem, r0, r1, r2, r3, r4, r5, r6]) rfl ?_
    exact ⟨by rw [hres.out]; rfl, below_put7 HB.out _ _ _ _ _ _ _⟩
end Go.Proofs.YteccjdclkcipbaaDoor
