/-
  mask.part.show: what places show of a right number that isn't below 0.
-/
import Derived.Test.YteccjdclkcipbaaDoorPlMa
import Derived.Test.YteccjdclkcipbaaDoorMask1
import Derived.Test.YteccjdclkcipbaaDoorNum12
import Derived.Test.YteccjdclkcipbaaDoorNum10
namespace Go.Proofs.YteccjdclkcipbaaDoor
open Go.RowKit

def partC (p : MP) : Array Value := #[.int .i64 p.kind, .string ⟨p.text.toArray⟩, .int .i64 p.whole, .bool p.comma, .bool p.point, .int .i64 p.most, .int .i64 p.least]
abbrev partV (p : MP) : Value := .agg #[.int .i64 p.kind, .string ⟨p.text.toArray⟩, .int .i64 p.whole, .bool p.comma, .bool p.point, .int .i64 p.most, .int .i64 p.least]
structure PartIn (w : World) (p : MP) (m e : Int) (w' : World) : Prop where
  part : Lies w' w.heap.size 95 (partC p)
  num : Lies w' (w.heap.size + 1) 23 #[.int .i64 m, .int .i64 e]
  bel : Below w.heap.size w w'
theorem PartIn.start (w : World) (p : MP) (m e : Int) : PartIn w p m e ((w.alloc (.cells (partC p) 95)).alloc (.cells #[.int .i64 m, .int .i64 e] 23)) :=
  ⟨(Lies.new w _ _).alloc _, by have := Lies.new (w.alloc (.cells (partC p) 95)) 23 #[.int .i64 m, .int .i64 e]; simpa using this, ((Below.refl _ w).alloc (Nat.le_refl _) _).alloc (by simp) _⟩
theorem PartIn.next {w w' w'' : World} {p : MP} {m e : Int} (h : PartIn w p m e w') (hb : Below w'.heap.size w' w'') : PartIn w p m e w'' :=
  ⟨Lies.below h.part hb, Lies.below h.num hb, h.bel.trans (hb.mono h.bel.size)⟩
theorem mcut_any (t : Bs) (w : World) (ht : t.length ≤ 1000000) (hm : MaxVar w) :
    Calls Tryd.prog 123 #[.string ⟨t.toArray⟩, .string ⟨#[46]⟩] w fun e w' => e = .returned (.tuple #[.string ⟨(Lib.cut t [46]).1.toArray⟩, .string ⟨(Lib.cut t [46]).2.1.toArray⟩, .bool (Lib.cut t [46]).2.2]) ∧ Below w.heap.size w w' := by
  obtain ⟨m, hm⟩ := hm
  refine (Tryd.strings_Cut ⟨t.toArray⟩ ⟨#[46]⟩ m w (by simp [ByteArray.size]; omega) hm).mono ?_
  rintro e w' ⟨rfl, n, rfl⟩
  exact ⟨by simp, below_drewN (Below.refl _ _) n⟩
set_option maxRecDepth 100000 in
set_option maxHeartbeats 3200000 in
theorem places_any (p : MP) (m e : Int) (w : World) (hp : PowTab w) (hm : MaxVar w) (hR : pRight m e = true) (h1 : p.whole ≤ 1000) (h2 : p.most ≤ 1000) (h3 : p.least ≤ 1000) :
    Calls Tryd.prog 92 #[partV p, numV m e] w fun x w' => x = .returned (.string ⟨(pPlaces p m e).toArray⟩) ∧ Below w.heap.size w w' := by
  obtain ⟨kind, text, whole, comma, point, most, least⟩ := p
  dsimp only at h1 h2 h3
  have hRR := nRound_right m e most hR
  have hb := rb hRR
  have CR := Lib.hid (fun W => nround_any m e most W (by omega) hR)
  have CT := Lib.hid (fun W h => nText_right _ _ W h (by omega) (by omega) hRR)
  have hsh := nText_short _ _ hRR
  have hcs := cut_short (nText (nRound m e most).1 (nRound m e most).2) [46]
  have CC := Lib.hid (fun W h => mcut_any (nText (nRound m e most).1 (nRound m e most).2) W (by omega) h)
  have HD : Hid (pPlaces ⟨kind, text, whole, comma, point, most, least⟩ m e =
    (if point then (if comma then groupG (List.replicate (whole - (if (Lib.cut (nText (nRound m e most).1 (nRound m e most).2) [46]).1 = [48] then [] else (Lib.cut (nText (nRound m e most).1 (nRound m e most).2) [46]).1).length) 48 ++ (if (Lib.cut (nText (nRound m e most).1 (nRound m e most).2) [46]).1 = [48] then [] else (Lib.cut (nText (nRound m e most).1 (nRound m e most).2) [46]).1)) else List.replicate (whole - (if (Lib.cut (nText (nRound m e most).1 (nRound m e most).2) [46]).1 = [48] then [] else (Lib.cut (nText (nRound m e most).1 (nRound m e most).2) [46]).1).length) 48 ++ (if (Lib.cut (nText (nRound m e most).1 (nRound m e most).2) [46]).1 = [48] then [] else (Lib.cut (nText (nRound m e most).1 (nRound m e most).2) [46]).1)) ++ [46] ++ (Lib.cut (nText (nRound m e most).1 (nRound m e most).2) [46]).2.1 ++ List.replicate (least - (Lib.cut (nText (nRound m e most).1 (nRound m e most).2) [46]).2.1.length) 48
     else (if comma then groupG (List.replicate (whole - (if (Lib.cut (nText (nRound m e most).1 (nRound m e most).2) [46]).1 = [48] then [] else (Lib.cut (nText (nRound m e most).1 (nRound m e most).2) [46]).1).length) 48 ++ (if (Lib.cut (nText (nRound m e most).1 (nRound m e most).2) [46]).1 = [48] then [] else (Lib.cut (nText (nRound m e most).1 (nRound m e most).2) [46]).1)) else List.replicate (whole - (if (Lib.cut (nText (nRound m e most).1 (nRound m e most).2) [46]).1 = [48] then [] else (Lib.cut (nText (nRound m e most).1 (nRound m e most).2) [46]).1).length) 48 ++ (if (Lib.cut (nText (nRound m e most).1 (nRound m e most).2) [46]).1 = [48] then [] else (Lib.cut (nText (nRound m e most).1 (nRound m e most).2) [46]).1)))) := Lib.hid rfl
  obtain ⟨out, hout⟩ : ∃ out, pPlaces ⟨kind, text, whole, comma, point, most, least⟩ m e = out := ⟨_, rfl⟩
  rw [hout] at HD ⊢
  clear hout hb hRR hR
  generalize (nRound m e most).1 = M at *
  generalize (nRound m e most).2 = E at *
  generalize nText M E = t at *
  generalize (Lib.cut t [46]).1 = A at *
  generalize (Lib.cut t [46]).2.1 = B at *
  generalize (Lib.cut t [46]).2.2 = found at *
  obtain ⟨hA, hB⟩ := hcs
  have HP := Lib.hid hp
  have HM := Lib.hid hm
  clear hp hm
  have HB0 : Hid (PartIn w ⟨kind, text, whole, comma, point, most, least⟩ m e ((w.alloc (.cells (partC ⟨kind, text, whole, comma, point, most, least⟩) 95)).alloc (.cells #[.int .i64 m, .int .i64 e] 23))) := Lib.hid (PartIn.start w _ m e)
  go_enter Tryd.func92, Tryd.ntmps92
  go_wp2_with fail
  refine (CR.out _).mono ?_
  rintro x w1 ⟨rfl, hb⟩
  have H1 := Lib.hid (HB0.out.next hb)
  clear hb HB0 CR
  go_wp2_with fail
  refine (CT.out _ (HP.out.next H1.out.bel)).mono ?_
  rintro x w2 ⟨rfl, hb⟩
  have H2 := Lib.hid (H1.out.next hb)
  clear hb H1 CT HP
  go_wp2_with fail
  refine (CC.out _ (HM.out.next H2.out.bel)).mono ?_
  rintro x w3 ⟨rfl, hb⟩
  have H3 := Lib.hid (H2.out.next hb)
  clear hb H2 CC HM
  go_upto_if 19 with fail
  go_cut [5] (fun v wx => v = .string ⟨(if A = [48] then [] else A : Bs).toArray⟩ ∧ wx = w3)
  case first =>
    cases hc : (A == [48])
    · have h0 : Hid ((if A = [48] then [] else A : Bs) = A) := Lib.hid (if_neg (by rw [beq_eq_false_iff_ne] at hc; exact hc))
      go_wp2_with fail
      go_meet
      exact ⟨by rw [h0.out], rfl⟩
    · have h0 : Hid ((if A = [48] then [] else A : Bs) = []) := Lib.hid (if_pos (by rw [beq_iff_eq] at hc; exact hc))
      go_wp2_with fail
      go_meet
      exact ⟨by rw [h0.out], rfl⟩
  case rest =>
    obtain ⟨rfl, rfl⟩ := hcut
    have hA2 : (if A = [48] then [] else A : Bs).length ≤ 255 := by split; exact Nat.zero_le _; omega
    generalize (if A = [48] then [] else A : Bs) = W0 at *
    have hB2 : B.length ≤ 255 := by omega
    clear hA hsh hB
    have c2 := H3.out.part.cell 2
    have c3 := H3.out.part.cell 3
    have c4 := H3.out.part.cell 4
    have c6 := H3.out.part.cell 6
    simp [partC] at c2 c3 c4 c6
    go_wp2_with fail
    have hmx : max ((whole : Int) - (W0.length : Int)) 0 = ((whole - W0.length : Nat) : Int) := by omega
    rw [hmx]
    clear hmx
    refine (rep_any (whole - W0.length) _ (by omega)).mono ?_
    rintro x w4 ⟨rfl, hb⟩
    have H4 := Lib.hid (H3.out.next hb)
    have hlr : (List.replicate (whole - W0.length) (48 : UInt8)).length ≤ 1000 := by rw [List.length_replicate]; omega
    clear hb H3 c2 c3 c4 c6
    have c3 := H4.out.part.cell 3
    simp [partC] at c3
    generalize hR : List.replicate (whole - W0.length) (48 : UInt8) = R at *
    clear hR
    go_upto_if 30 with fail
    have hW1 : (R ++ W0).length ≤ 1500 := by rw [List.length_append]; omega
    go_cut [5] (fun v wx => v = .string ⟨(if comma = true then groupG (R ++ W0) else R ++ W0 : Bs).toArray⟩ ∧ Hid (PartIn w ⟨kind, text, whole, comma, point, most, least⟩ m e wx))
    case first =>
      cases comma
      · go_wp2_with fail
        go_meet
        exact ⟨rfl, H4⟩
      · go_wp2_with fail
        refine (grouped_any (R ++ W0) _ (by omega)).mono ?_
        rintro x w5 ⟨rfl, hb⟩
        have H5 := Lib.hid (H4.out.next hb)
        clear hb H4
        go_wp2_with fail
        go_meet
        exact ⟨rfl, H5⟩
    case rest =>
      obtain ⟨rfl, H5⟩ := hcut
      have hW2 : (if comma = true then groupG (R ++ W0) else R ++ W0 : Bs).length ≤ 3000 := by
        have := groupG_len (R ++ W0)
        split <;> omega
      clear H4 c3 hlr hW1
      generalize (if comma = true then groupG (R ++ W0) else R ++ W0 : Bs) = W2 at *
      have c4 := H5.out.part.cell 4
      have c6 := H5.out.part.cell 6
      simp [partC] at c4 c6
      cases point
      · have hD : Hid (out = W2) := Lib.hid HD.out
        clear HD
        go_wp2_with fail
        go_ret
        exact ⟨by rw [hD.out]; rfl, H5.out.bel⟩
      · have hD : Hid (out = W2 ++ [46] ++ B ++ List.replicate (least - B.length) 48) := Lib.hid HD.out
        clear HD
        go_wp2_with fail
        have hmx : max ((least : Int) - (B.length : Int)) 0 = ((least - B.length : Nat) : Int) := by omega
        rw [hmx]
        clear hmx
        refine (rep_any (least - B.length) _ (by omega)).mono ?_
        rintro x w6 ⟨rfl, hb⟩
        have HB6 : Hid (Below w.heap.size w w6) := Lib.hid (H5.out.bel.trans (hb.mono H5.out.bel.size))
        have hlr : (List.replicate (least - B.length) (48 : UInt8)).length ≤ 1000 := by rw [List.length_replicate]; omega
        clear hb H5 c4 c6
        generalize List.replicate (least - B.length) (48 : UInt8) = R2 at *
        go_wp2_with fail
        go_ret
        exact ⟨by rw [hD.out]; simp, HB6.out⟩
end Go.Proofs.YteccjdclkcipbaaDoor
