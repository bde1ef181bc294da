/-
  lex: quoted, faultOf, token, Lex, and the plain words for them (merged: Lex6, PlainF, Lex7, PlainL, Lex8, PlainT).
-/
import Derived.Test.YtcgdeoldgnjdeaaDoorLex5
import Derived.Test.YtcgdeoldgnjdeaaDoorBuild1
import Derived.Test.YtcgdeoldgnjdeaaDoorPlainQ
import Derived.Test.YtcgdeoldgnjdeaaDoorVal2
namespace Go.Proofs.YtcgdeoldgnjdeaaDoor
open Go.RowKit

set_option maxHeartbeats 1600000 in
theorem quoted_any (l : Bs) (w : World) (hp : 0 < l.length) (hs : l.length ≤ 140737488351232) :
    Calls Tryd.prog 110 #[.string ⟨l.toArray⟩] w fun e w' => e = .returned (tokV (pQuoted l)) ∧ Below w.heap.size w w' := by
  have HP := Lib.hid (QInv.start l hp)
  go_enter Tryd.func110, Tryd.ntmps110
  go_wp2_with fail
  go_loopw [6] (fun i wr => ∃ (k : Nat) (acc : Bs), i = .int .i64 k ∧ Hid (QInv l acc k) ∧ Hid (Lib.IsBuilder 93 5 w.heap.size w.heap.size (Lib.byteCells acc) wr) ∧ Hid (Below w.heap.size w wr)) (fun i _ => l.length + 1 - (intOf i).toNat)
  case atStart => exact ⟨1, [], rfl, HP, Lib.hid (Lib.fresh_isBuilder _ _ w), Lib.hid ((Below.refl _ w).alloc (Nat.le_refl _) _)⟩
  case round =>
    obtain ⟨k, acc, rfl, hq, hbu, hbel⟩ := hrel
    clear HP
    have hk1 := hq.out.1
    have hk2 := hq.out.2.1
    have hk3 := hq.out.2.2.1
    go_wp2_with fail
    have hidx := Lib.indexByte_ge (l.drop k) 34
    refine (indexByte_any (l.drop k) 34 _).mono ?_
    rintro e w' ⟨rfl, rfl⟩
    generalize hI : Lib.indexByte (l.drop k) 34 = i at *
    have HI := Lib.hid hI
    clear hI
    by_cases hi : i < 0
    · have hf : Hid (pQuoted l = (0, [], 0)) := Lib.hid (hq.out.fail (by rw [HI.out]; exact hi))
      go_wp2_with fail
      go_ret3
      exact ⟨by rw [hf.out]; rfl, hbel.out⟩
    · obtain ⟨n, rfl⟩ := Int.eq_ofNat_of_zero_le (by omega : 0 ≤ i)
      have hsp := (hq.out.split HI.out).1
      have hlen : acc.length + ((l.drop k).take n).length ≤ 140737488355328 := by rw [List.length_take]; omega
      go_wp2_with fail
      refine (writeString_any w.heap.size w.heap.size acc ((l.drop k).take n) _ hbu.out hlen hbel.out.size).mono ?_
      rintro e w1 ⟨rfl, hbu1, hb1⟩
      have HBU := Lib.hid hbu1
      have HB : Hid (Below w.heap.size w w1) := Lib.hid (hbel.out.trans hb1)
      clear hbu1 hb1 hbu hbel
      by_cases hend : k + (n + 1) = l.length
      · have hstop : Hid (pQuoted l = (2, acc ++ (l.drop k).take n, k + n + 1)) := Lib.hid (hq.out.stop HI.out (at_out _ _ _ (by omega)))
        have b1 : ((k : Int) + ((n : Int) + 1) == (l.length : Int)) = true := by rw [beq_iff_eq]; omega
        clear hend
        go_wp2_with fail
        refine (Tryd.Builder_String_any w.heap.size w.heap.size (acc ++ (l.drop k).take n) _ HBU.out HB.out.size).mono ?_
        rintro e w2 ⟨rfl, hb2⟩
        have HB2 : Hid (Below w.heap.size w w2) := Lib.hid (HB.out.trans hb2)
        clear hb2
        go_wp2_with fail
        go_ret3
        exact ⟨by rw [hstop.out]; exact ret_tok (by simp; omega), HB2.out⟩
      · have hlt : k + (n + 1) < l.length := by omega
        have b1 : ((k : Int) + ((n : Int) + 1) == (l.length : Int)) = false := by rw [beq_eq_false_iff_ne]; omega
        have e34 := at_bne l (k + (n + 1)) 34 34 rfl hlt
        clear hend
        cases h34 : atIs l (k + (n + 1)) 34
        · have hstop : Hid (pQuoted l = (2, acc ++ (l.drop k).take n, k + n + 1)) := Lib.hid (hq.out.stop HI.out h34)
          rw [h34] at e34
          go_wp2_with fail
          refine (Tryd.Builder_String_any w.heap.size w.heap.size (acc ++ (l.drop k).take n) _ HBU.out HB.out.size).mono ?_
          rintro e w2 ⟨rfl, hb2⟩
          have HB2 : Hid (Below w.heap.size w w2) := Lib.hid (HB.out.trans hb2)
          clear hb2
          go_wp2_with fail
          go_ret3
          exact ⟨by rw [hstop.out]; exact ret_tok (by simp; omega), HB2.out⟩
        · have hnext := Lib.hid (hq.out.next HI.out h34)
          rw [h34] at e34
          have hlen2 : (acc ++ (l.drop k).take n).length + 1 ≤ 140737488355328 := by rw [List.length_append, List.length_take]; omega
          go_wp2_with fail
          refine (writeByte_any w.heap.size w.heap.size (acc ++ (l.drop k).take n) 34 _ HBU.out hlen2 HB.out.size).mono ?_
          rintro e w2 ⟨rfl, hbu2, hb2⟩
          have HBU2 := Lib.hid hbu2
          have HB2 : Hid (Below w.heap.size w w2) := Lib.hid (HB.out.trans hb2)
          clear hbu2 hb2
          go_wp2_with fail
          go_roundw
          case rel => exact ⟨k + n + 1 + 1, _, by go_num, hnext, HBU2, HB2⟩
          case measure => simp [intOf]; omega
theorem find_first (p : Nat → Bool) (n k : Nat) (h1 : 1 ≤ k) (h2 : k < n + 1) (hk : p k = true) (h : ∀ j, 1 ≤ j → j < k → p j = false) : (List.range' 1 n).find? p = some k := by
  rw [List.find?_range'_eq_some]
  refine ⟨hk, by simp [List.mem_range'_1]; omega, fun j hj1 hj2 => by rw [h j hj1 hj2]; rfl⟩
theorem find_no (p : Nat → Bool) (n : Nat) (h : ∀ j, 1 ≤ j → j < n + 1 → p j = false) : (List.range' 1 n).find? p = none := by
  rw [List.find?_eq_none]
  intro j hj
  rw [List.mem_range'_1] at hj
  rw [h j hj.1 (by omega)]
  decide
def pFaultAt (l : Bs) (k : Nat) : Bool := decide ((faultB k).length ≤ l.length) && (pFold (l.take (faultB k).length) == faultB k)
def pFault (l : Bs) : Option Nat := if atIs l 0 35 then (List.range' 1 9).find? (pFaultAt l) else none
def pFaultB (l : Bs) : Bs := match pFault l with | some k => faultB k | none => []

set_option maxHeartbeats 800000 in
theorem faultOf_any (L : Bs) (w : World) (hp : 0 < L.length) (hs : L.length ≤ maxLen) (ht : Tab w) :
    Calls Tryd.prog 111 #[.string ⟨L.toArray⟩] w fun e w' => e = .returned (.tuple #[.string ⟨(pFaultB L).toArray⟩, .int .i64 (pFaultB L).length]) ∧ Below w.heap.size w w' := by
  have e35 := at_bne L 0 35 35 rfl hp
  have hN : pFault L = if atIs L 0 35 then (List.range' 1 9).find? (pFaultAt L) else none := rfl
  cases h35 : atIs L 0 35
  · have hB : pFaultB L = [] := by unfold pFaultB; rw [hN, h35]; rfl
    rw [h35] at e35
    rw [hB]
    clear hN hB ht
    go_enter Tryd.func111, Tryd.ntmps111
    go_wp2_with fail
    go_ret2
    exact ⟨rfl, Below.refl _ _⟩
  · rw [h35] at e35 hN
    rw [if_pos rfl] at hN
    have HN := Lib.hid hN
    clear hN
    have HT := Lib.hid ht
    clear ht
    have HB : Hid (pFaultB L = match pFault L with | some k => faultB k | none => []) := Lib.hid rfl
    generalize pFaultB L = R at *
    have hs' := hs
    unfold maxLen at hs'
    go_enter Tryd.func111, Tryd.ntmps111
    go_wp2_with fail
    go_loopw [4] (fun i wr => ∃ k : Nat, 1 ≤ k ∧ k ≤ 10 ∧ i = .int .i64 k ∧ Hid (∀ j, 1 ≤ j → j < k → pFaultAt L j = false) ∧ Hid (Below w.heap.size w wr)) (fun i _ => 10 - (intOf i).toNat)
    case atStart => exact ⟨1, by omega, by omega, rfl, Lib.hid (fun j h1 h2 => by omega), Lib.hid (Below.refl _ _)⟩
    case round =>
      obtain ⟨k, hk1, hk2, rfl, hr, hbel⟩ := hrel
      have ht2 : Hid (Tab wr) := Lib.hid (HT.out.next hbel.out)
      by_cases hlt : k ≤ 9
      · have hft : Hid (pFaultText (k : Int) = faultB k) := Lib.hid (by unfold pFaultText; rw [if_pos (by omega)]; simp)
        go_wp2_with fail
        refine (faultText_any (k : Int) _ ht2.out).mono ?_
        rintro e w' ⟨rfl, rfl⟩
        rw [hft.out]
        have hA : pFaultAt L k = (decide ((faultB k).length ≤ L.length) && (pFold (L.take (faultB k).length) == faultB k)) := rfl
        have HA := Lib.hid hA
        have HF : Hid (pFault L = some k → R = faultB k) := Lib.hid (by intro h; rw [HB.out, h])
        clear hA hft
        generalize faultB k = t at *
        by_cases hle : t.length ≤ L.length
        · go_wp2_with fail
          refine (fold_any (L.take t.length) _ (by rw [List.length_take]; omega)).mono ?_
          rintro e w1 ⟨rfl, hb1⟩
          generalize pFold (L.take t.length) = u at *
          have hb2 : Hid (Below w.heap.size w w1) := Lib.hid (hbel.out.trans (hb1.mono hbel.out.size))
          clear hb1
          cases hu : (u == t)
          · have hq : Hid (pFaultAt L k = false) := Lib.hid (by rw [HA.out, hu]; simp)
            go_wp2_with fail
            go_roundw
            case rel =>
              refine ⟨k + 1, by omega, by omega, by go_num, Lib.hid (fun j h1 h2 => ?_), hb2⟩
              by_cases e : j = k
              · rw [e]; exact hq.out
              · exact hr.out j h1 (by omega)
            case measure => simp [intOf]; omega
          · have hq : Hid (R = t) := Lib.hid (HF.out (by rw [HN.out]; exact find_first _ 9 k hk1 (by omega) (by rw [HA.out, hu]; simpa using hle) hr.out))
            go_wp2_with fail
            go_ret2
            exact ⟨by rw [hq.out]; rfl, hb2.out⟩
        · have hq : Hid (pFaultAt L k = false) := Lib.hid (by rw [HA.out]; simp; intro h; omega)
          go_wp2_with fail
          go_roundw
          case rel =>
            refine ⟨k + 1, by omega, by omega, by go_num, Lib.hid (fun j h1 h2 => ?_), hbel⟩
            by_cases e : j = k
            · rw [e]; exact hq.out
            · exact hr.out j h1 (by omega)
          case measure => simp [intOf]; omega
      · have hq : Hid (R = []) := Lib.hid (by rw [HB.out, HN.out, find_no _ 9 (fun j h1 h2 => hr.out j h1 (by omega))])
        go_wp2_with fail
        go_ret2
        exact ⟨by rw [hq.out]; rfl, hbel.out⟩
def letter0 (l : Bs) : Bool := match l with | c :: _ => isLetter c | [] => false
theorem letter0_eq (l : Bs) (hp : 0 < l.length) : isLetter l[0] = letter0 l := by cases l with | nil => simp at hp | cons c l => rfl
/-- what a text that isn't empty begins with: kind, text, size; of size 0: none -/
def pToken (l : Bs) : Nat × Bs × Nat :=
  if 0 < pNumber l then (1, l.take (pNumber l), pNumber l)
  else if letter0 l || atIs l 0 95 || atIs l 0 36 then pWord l
  else if atIs l 0 34 then pQuoted l
  else if 0 < (pFaultB l).length then (6, pFaultB l, (pFaultB l).length)
  else if 0 < pSign l then (5, l.take (pSign l), pSign l)
  else (0, [], 0)
theorem sign_at (l : Bs) (w : World) (hp : 0 < l.length) :
    Calls Tryd.prog 112 #[.string ⟨l.toArray⟩] w fun e w' => e = .returned (.int .i64 (pSign l)) ∧ w = w' := by
  cases l with
  | nil => simp at hp
  | cons c l => exact sign_any c l w
theorem pSign_le (l : Bs) (hp : 0 < l.length) : pSign l ≤ l.length := by
  unfold pSign
  split
  case isTrue h =>
    cases l with
    | nil => simp at hp
    | cons c l =>
      cases l with
      | nil => simp [Lib.hasPrefix, List.isPrefixOf] at h
      | cons d l => simp
  case isFalse => split <;> omega

set_option maxHeartbeats 1600000 in
theorem token_any (l : Bs) (w : World) (hp : 0 < l.length) (hs : l.length ≤ 140737488351232) (ht : Tab w) :
    Calls Tryd.prog 66 #[.string ⟨l.toArray⟩] w fun e w' => e = .returned (tokV (pToken l)) ∧ Below w.heap.size w w' := by
  have hs1 : l.length ≤ maxLen := by unfold maxLen; omega
  have hnl := pNumber_le l
  have hsl := pSign_le l hp
  have hN : pToken l = if 0 < pNumber l then (1, l.take (pNumber l), pNumber l)
    else if letter0 l || atIs l 0 95 || atIs l 0 36 then pWord l
    else if atIs l 0 34 then pQuoted l
    else if 0 < (pFaultB l).length then (6, pFaultB l, (pFaultB l).length)
    else if 0 < pSign l then (5, l.take (pSign l), pSign l)
    else (0, [], 0) := rfl
  have HN := Lib.hid hN
  have HT := Lib.hid ht
  clear hN ht
  generalize pToken l = r at *
  go_enter Tryd.func66, Tryd.ntmps66
  go_wp2_with fail
  refine (number_any l _ hs1).mono ?_
  rintro e w' ⟨rfl, rfl⟩
  generalize pNumber l = n at *
  by_cases hn : 0 < n
  · have HR : Hid (r = (1, l.take n, n)) := Lib.hid (by rw [HN.out, if_pos hn])
    clear HN
    go_wp2_with fail
    go_quiet (fail)
    go_wp2_with fail
    go_ret3
    exact ⟨by rw [HR.out]; rfl, below_drewN (Below.refl _ _) _⟩
  · have HR := Lib.hid (HN.out.trans (if_neg hn))
    clear HN
    have e95 := at_beq l 0 95 95 rfl hp
    have e36 := at_beq l 0 36 36 rfl hp
    have e34 := at_beq l 0 34 34 rfl hp
    have hl0 := letter0_eq l hp
    go_upto_region 5 with fail
    go_cut [27] (fun v wx => v = .bool (letter0 l || atIs l 0 95 || atIs l 0 36) ∧ w = wx)
    case first =>
      go_wp2_with fail
      refine (isLetter_any _ _).mono ?_
      rintro e w' ⟨rfl, rfl⟩
      rw [hl0]
      clear hl0
      cases h1 : letter0 l <;> cases h2 : atIs l 0 95 <;> cases h3 : atIs l 0 36
      all_goals rw [h2] at e95; rw [h3] at e36
      all_goals go_wp2_with fail
      all_goals go_meet
      all_goals exact ⟨by first | rfl | (rw [h1, h2, h3]; rfl), rfl⟩
    case rest =>
      obtain ⟨rfl, rfl⟩ := hcut
      clear hl0 e95 e36
      cases hw : (letter0 l || atIs l 0 95 || atIs l 0 36)
      · have HR2 := Lib.hid (HR.out.trans (if_neg (by rw [hw]; decide)))
        clear HR
        cases h34 : atIs l 0 34
        · have HR3 := Lib.hid (HR2.out.trans (if_neg (by rw [h34]; decide)))
          clear HR2
          rw [h34] at e34
          go_wp2_with fail
          refine (faultOf_any l _ hp hs1 HT.out).mono ?_
          rintro e w1 ⟨rfl, hb1⟩
          have HB1 := Lib.hid hb1
          clear hb1
          generalize pFaultB l = f at *
          by_cases hf : 0 < f.length
          · have HR4 := Lib.hid (HR3.out.trans (if_pos hf))
            clear HR3
            go_wp2_with fail
            go_ret3
            exact ⟨by rw [HR4.out]; rfl, HB1.out⟩
          · have HR4 := Lib.hid (HR3.out.trans (if_neg hf))
            clear HR3
            go_wp2_with fail
            refine (sign_at l _ hp).mono ?_
            rintro e w' ⟨rfl, rfl⟩
            generalize pSign l = g at *
            by_cases hg : 0 < g
            · have HR5 := Lib.hid (HR4.out.trans (if_pos hg))
              clear HR4
              go_wp2_with fail
              go_quiet (fail)
              go_wp2_with fail
              go_ret3
              exact ⟨by rw [HR5.out]; rfl, below_drewN HB1.out _⟩
            · have HR5 := Lib.hid (HR4.out.trans (if_neg hg))
              clear HR4
              go_wp2_with fail
              go_ret3
              exact ⟨by rw [HR5.out]; rfl, HB1.out⟩
        · have HR3 := Lib.hid (HR2.out.trans (if_pos h34))
          clear HR2
          rw [h34] at e34
          go_wp2_with fail
          refine (quoted_any l _ hp hs).mono ?_
          rintro e w1 ⟨rfl, hb1⟩
          go_wp2_with fail
          go_ret3
          exact ⟨by rw [HR3.out]; rfl, hb1⟩
      · have HR2 := Lib.hid (HR.out.trans (if_pos hw))
        clear HR
        go_wp2_with fail
        refine (word_any l _ hs1).mono ?_
        rintro e w1 ⟨rfl, hb1⟩
        go_wp2_with fail
        go_ret3
        exact ⟨by rw [HR2.out]; rfl, hb1⟩
structure Tok where
  kind : Nat
  text : Bs
  place : Nat
theorem pWord_le (l : Bs) : (pWord l).2.2 ≤ l.length := by
  unfold pWord
  have := runP_le isWord l
  split
  · exact this
  · split
    · exact this
    · exact Nat.zero_le _
theorem pText_le (l : Bs) : ∀ x, pText l = some x → x.2 ≤ l.length ∧ x.1.length ≤ l.length := by
  have key : ∀ n (l : Bs), l.length ≤ n → ∀ x, pText l = some x → x.2 ≤ l.length ∧ x.1.length ≤ l.length := by
    intro n
    induction n with
    | zero => intro l hl x hx; cases l with
      | nil => simp [pText] at hx
      | cons c l => simp at hl
    | succ n ih =>
      intro l hl x hx
      match l, hl, hx with
      | [], _, hx => simp [pText] at hx
      | [c], _, hx =>
        simp only [pText] at hx
        split at hx
        · injection hx with hx; subst hx; simp
        · cases hx
      | c :: d :: l, hl, hx =>
        simp only [pText] at hx
        simp only [List.length_cons] at hl
        split at hx
        · split at hx
          · cases hy : pText l with
            | none => rw [hy] at hx; cases hx
            | some y =>
              rw [hy] at hx
              injection hx with hx
              have := ih l (by omega) y hy
              subst hx
              simp only [List.length_cons]
              omega
          · injection hx with hx; subst hx; simp
        · cases hy : pText (d :: l) with
          | none => rw [hy] at hx; cases hx
          | some y =>
            rw [hy] at hx
            injection hx with hx
            have := ih (d :: l) (by simp only [List.length_cons]; omega) y hy
            subst hx
            simp only [List.length_cons] at this ⊢
            omega
  exact key l.length l (Nat.le_refl _)
theorem pQuoted_le (l : Bs) : (pQuoted l).2.2 ≤ l.length := by
  unfold pQuoted
  cases h : pText (l.drop 1) with
  | none => exact Nat.zero_le _
  | some x =>
    have := (pText_le _ x h).1
    rw [List.length_drop] at this
    show x.2 + 1 ≤ l.length
    cases l with
    | nil => simp [pText] at h
    | cons c l => simp only [List.length_cons] at this ⊢; omega
theorem pFaultB_le (l : Bs) : (pFaultB l).length ≤ l.length := by
  unfold pFaultB
  cases h : pFault l with
  | none => simp
  | some k =>
    unfold pFault at h
    split at h
    · have := List.find?_some h
      unfold pFaultAt at this
      simp only [Bool.and_eq_true, decide_eq_true_eq] at this
      exact this.1
    · cases h
theorem pToken_le (l : Bs) (hp : 0 < l.length) : (pToken l).2.2 ≤ l.length := by
  unfold pToken
  split
  · exact pNumber_le l
  · split
    · exact pWord_le l
    · split
      · exact pQuoted_le l
      · split
        · exact pFaultB_le l
        · split
          · exact pSign_le l hp
          · exact Nat.zero_le _
/-- the tokens of what is left from a place on, or the place of what is none -/
def lexGo : Nat → Bs → Nat → Except Nat (List Tok)
  | 0, _, _ => .ok []
  | _ + 1, [], _ => .ok []
  | f + 1, c :: r, k =>
    if c = 32 then lexGo f r (k + 1)
    else if (pToken (c :: r)).2.2 = 0 then .error k
    else match lexGo f ((c :: r).drop (pToken (c :: r)).2.2) (k + (pToken (c :: r)).2.2) with
      | .error p => .error p
      | .ok ts => .ok (⟨(pToken (c :: r)).1, (pToken (c :: r)).2.1, k⟩ :: ts)
theorem lexGo_fuel : ∀ (f g : Nat) (l : Bs) (k : Nat), l.length ≤ f → l.length ≤ g → lexGo f l k = lexGo g l k := by
  intro f
  induction f with
  | zero =>
    intro g l k hf hg
    obtain rfl : l = [] := List.eq_nil_of_length_eq_zero (by omega)
    cases g <;> rfl
  | succ f ih =>
    intro g l k hf hg
    cases l with
    | nil => cases g <;> rfl
    | cons c r =>
      cases g with
      | zero => simp at hg
      | succ g =>
        simp only [List.length_cons] at hf hg
        simp only [lexGo]
        split
        · exact ih g r _ (by omega) (by omega)
        · split
          · rfl
          · rename_i h0
            rw [ih g _ _ (by rw [List.length_drop, List.length_cons]; omega) (by rw [List.length_drop, List.length_cons]; omega)]
def lexFrom (l : Bs) (k : Nat) : Except Nat (List Tok) := lexGo l.length l k
theorem lexFrom_nil (k : Nat) : lexFrom [] k = .ok [] := rfl
theorem lexFrom_blank (r : Bs) (k : Nat) : lexFrom (32 :: r) k = lexFrom r (k + 1) := by
  unfold lexFrom
  simp only [List.length_cons, lexGo]
  rfl
theorem lexFrom_bad (c : UInt8) (r : Bs) (k : Nat) (h : c ≠ 32) (h0 : (pToken (c :: r)).2.2 = 0) : lexFrom (c :: r) k = .error k := by
  unfold lexFrom
  simp only [List.length_cons, lexGo]
  rw [if_neg h, if_pos h0]
/-- one token ahead -/
def consTok (t : Tok) : Except Nat (List Tok) → Except Nat (List Tok)
  | .error p => .error p
  | .ok ts => .ok (t :: ts)
theorem lexFrom_tok (c : UInt8) (r : Bs) (k : Nat) (h : c ≠ 32) (h0 : (pToken (c :: r)).2.2 ≠ 0) :
    lexFrom (c :: r) k = consTok ⟨(pToken (c :: r)).1, (pToken (c :: r)).2.1, k⟩ (lexFrom ((c :: r).drop (pToken (c :: r)).2.2) (k + (pToken (c :: r)).2.2)) := by
  unfold lexFrom
  simp only [List.length_cons]
  rw [lexGo, if_neg h, if_neg h0]
  rw [lexGo_fuel r.length ((c :: r).drop (pToken (c :: r)).2.2).length _ _ (by rw [List.length_drop, List.length_cons]; omega) (Nat.le_refl _)]
  cases lexGo ((c :: r).drop (pToken (c :: r)).2.2).length ((c :: r).drop (pToken (c :: r)).2.2) (k + (pToken (c :: r)).2.2) <;> rfl
def pLex (l : Bs) : Except Nat (List Tok) := lexFrom l 0
/-- tokens ahead -/
def appTok (a : List Tok) : Except Nat (List Tok) → Except Nat (List Tok)
  | .error p => .error p
  | .ok ts => .ok (a ++ ts)
theorem appTok_cons (a : List Tok) (t : Tok) (x : Except Nat (List Tok)) : appTok a (consTok t x) = appTok (a ++ [t]) x := by
  cases x with
  | error p => rfl
  | ok ts => simp [appTok, consTok]
/-- how far Lex has come -/
def LInv (l : Bs) (a : List Tok) (k : Nat) : Prop := k ≤ l.length ∧ a.length ≤ k ∧ pLex l = appTok a (lexFrom (l.drop k) k)
theorem LInv.start (l : Bs) : LInv l [] 0 := by
  refine ⟨Nat.zero_le _, Nat.le_refl _, ?_⟩
  unfold pLex
  rw [List.drop_zero]
  cases lexFrom l 0 <;> rfl
theorem LInv.blank {l : Bs} {a : List Tok} {k : Nat} (h : LInv l a k) (hb : atIs l k 32 = true) : LInv l a (k + 1) := by
  have hlt := at_lt _ _ _ hb
  refine ⟨hlt, by have := h.2.1; omega, ?_⟩
  have e : l[k] = 32 := by
    unfold atIs at hb
    rw [List.getElem?_eq_getElem hlt] at hb
    have := eq_of_beq hb
    injection this
  rw [h.2.2, List.drop_eq_getElem_cons hlt, e, lexFrom_blank]
theorem ne_of_at {l : Bs} {k : Nat} {c : UInt8} (hlt : k < l.length) (hb : atIs l k c = false) : l[k] ≠ c := by
  intro e
  unfold atIs at hb
  rw [List.getElem?_eq_getElem hlt, e] at hb
  simp at hb
theorem LInv.bad {l : Bs} {a : List Tok} {k : Nat} (h : LInv l a k) (hlt : k < l.length) (hb : atIs l k 32 = false) (h0 : (pToken (l.drop k)).2.2 = 0) : pLex l = .error k := by
  have e := List.drop_eq_getElem_cons hlt
  rw [h.2.2]
  rw [e] at h0 ⊢
  rw [lexFrom_bad _ _ _ (ne_of_at hlt hb) h0]
  rfl
theorem LInv.tok {l : Bs} {a : List Tok} {k : Nat} (h : LInv l a k) (hlt : k < l.length) (hb : atIs l k 32 = false) (h0 : (pToken (l.drop k)).2.2 ≠ 0) :
    LInv l (a ++ [⟨(pToken (l.drop k)).1, (pToken (l.drop k)).2.1, k⟩]) (k + (pToken (l.drop k)).2.2) := by
  have e := List.drop_eq_getElem_cons hlt
  have hle := pToken_le (l.drop k) (by rw [List.length_drop]; omega)
  rw [List.length_drop] at hle
  refine ⟨by omega, by have := h.2.1; simp; omega, ?_⟩
  rw [h.2.2, ← appTok_cons, ← List.drop_drop]
  rw [e] at h0 ⊢
  rw [lexFrom_tok _ _ _ (ne_of_at hlt hb) h0]
theorem LInv.done {l : Bs} {a : List Tok} {k : Nat} (h : LInv l a k) (hk : ¬ k < l.length) : pLex l = .ok a := by
  rw [h.2.2, List.drop_of_length_le (by omega), lexFrom_nil]
  simp [appTok]
def tokCells (t : Tok) : List Value := [.int .i64 t.kind, .string ⟨t.text.toArray⟩, .int .i64 t.place]
def rowCells (ts : List Tok) : List Value := ts.flatMap tokCells
theorem rowCells_snoc (ts : List Tok) (t : Tok) : rowCells (ts ++ [t]) = rowCells ts ++ tokCells t := by simp [rowCells]
/-- the last one -/
def endTok (n : Nat) : Tok := ⟨0, [], n⟩
theorem infoTok : (Tryd.prog.info? 34).map (fun i => (i.zero, i.size, i.bytes)) = some (some (.agg #[.int .i64 0, .string ⟨#[]⟩, .int .i64 0]), 3, 32) := by kernel_rfl
theorem only_of_below {a w : World} (h : Below a.heap.size a w) (row : Option Nat) : a.grownBy w row := ⟨h.os, h.tape, h.output, h.size, fun i hi _ => h.block i hi⟩
theorem own_next {a w : World} (h : Below a.heap.size a w) {base : Nat} {e : TypeId} {size : Nat} {v : Value} {n : Nat} {xs : List Value} (ho : a.ownsRow base e size v n xs) : w.ownsRow base e size v n xs := by
  refine ho.kept (only_of_below h none) ?_
  cases hv : v.ownBlock with
  | none => exact .inl rfl
  | some k => exact .inr (by simp)
/-- what Lex leaves -/
def LexPost (w : World) (n : Nat) (r : Except Nat (List Tok)) (e : Ending) (w' : World) : Prop :=
  match r with
  | .error k => e = .returned (.tuple #[.slice none 0 0, .int .i64 k, .int .i64 7]) ∧ Below w.heap.size w w'
  | .ok ts => ∃ v, e = .returned (.tuple #[v, .int .i64 0, .int .i64 0]) ∧ w'.ownsRow w.heap.size 34 3 v (ts.length + 1) (rowCells (ts ++ [endTok n])) ∧ Below w.heap.size w w'
theorem tok_news {w : World} (t : Tok) : ∀ j u, (tokCells t)[j]? = some u → (w.alloc (.cells #[.int .i64 t.kind, .string ⟨t.text.toArray⟩, .int .i64 t.place] 34)).cell? ((⟨w.heap.size, 0, none⟩ : Addr).add j) = some u := by
  intro j u hj
  match j, hj with
  | 0, hj => simp [tokCells] at hj; subst hj; simp [Addr.add]
  | 1, hj => simp [tokCells] at hj; subst hj; simp [Addr.add]
  | 2, hj => simp [tokCells] at hj; subst hj; simp [Addr.add]
theorem tok_one (t : Tok) : ∀ u ∈ tokCells t, u.oneCell' = true := by
  intro u hu
  simp [tokCells] at hu
  rcases hu with rfl | rfl | rfl <;> rfl

set_option maxHeartbeats 1600000 in
theorem lex_any (l : Bs) (w : World) (hs : l.length ≤ 1000000) (ht : Tab w) :
    Calls Tryd.prog 19 #[.string ⟨l.toArray⟩] w fun e w' => LexPost w l.length (pLex l) e w' := by
  obtain ⟨i0, hi, hz0, hz1, hz2⟩ := info_parts infoTok
  have HT := Lib.hid ht
  clear ht
  have HP := Lib.hid (LInv.start l)
  go_enter Tryd.func19, Tryd.ntmps19
  go_wp2_with fail
  go_loopw [5, 6] (fun v i wr => ∃ (k : Nat) (a : List Tok), i = .int .i64 k ∧ Hid (LInv l a k) ∧ Hid (wr.ownsRow w.heap.size 34 3 v a.length (rowCells a)) ∧ Hid (Below w.heap.size w wr)) (fun _ i _ => l.length - (intOf i).toNat)
  case atStart => exact ⟨0, [], rfl, HP, Lib.hid (World.ownsRow_nil _ _ _ _), Lib.hid (Below.refl _ _)⟩
  case round =>
    obtain ⟨k, a, rfl, hq, hown, hbel⟩ := hrel
    rename_i v
    clear HP
    have hk1 := hq.out.1
    have hk2 := hq.out.2.1
    have HT2 : Hid (Tab wr) := Lib.hid (HT.out.next hbel.out)
    by_cases hlt : k < l.length
    · have e32 := at_beq l k 32 32 rfl hlt
      cases h32 : atIs l k 32
      · rw [h32] at e32
        have hdp : 0 < (l.drop k).length := by rw [List.length_drop]; omega
        have hdl : (l.drop k).length ≤ 140737488351232 := by rw [List.length_drop]; omega
        have hle := pToken_le (l.drop k) hdp
        rw [List.length_drop] at hle
        go_wp2_with fail
        refine (token_any (l.drop k) _ hdp hdl HT2.out).mono ?_
        rintro e w1 ⟨rfl, hb1⟩
        have HB1 : Hid (Below w.heap.size w w1) := Lib.hid (hbel.out.trans (hb1.mono hbel.out.size))
        have HO1 := Lib.hid (own_next hb1 hown.out)
        clear hb1 hown hbel
        have hbad := Lib.hid (hq.out.bad hlt h32)
        have htok := Lib.hid (hq.out.tok hlt h32)
        generalize pToken (l.drop k) = x at *
        obtain ⟨kind, text, size⟩ := x
        by_cases h0 : size = 0
        · have hres := Lib.hid (hbad.out h0)
          clear hbad htok
          subst h0
          go_wp2_with fail
          go_ret3
          rw [hres.out]
          exact ⟨rfl, HB1.out⟩
        · have hres := Lib.hid (htok.out h0)
          clear hbad htok
          have b0 : ((size : Int) == 0) = false := by rw [beq_eq_false_iff_ne]; omega
          go_wp2_with (at_builtin; refine wpList_append_own _ rfl _ _ 23 rfl w.heap.size 34 i0 (.agg #[.int .i64 0, .string ⟨#[]⟩, .int .i64 0]) 3 32 Tryd.underlying23 hi hz0 hz1 hz2 rfl (by decide) _ _ _ rfl (HO1.out.alloc _) ⟨w1.heap.size, 0, none⟩ 1 1 (tokCells ⟨kind, text, k⟩) rfl rfl ?c1 ?c2 ?c3 ?c4 ?c5 ?_)
          case c1 => exact tok_news ⟨kind, text, k⟩
          case c2 => exact tok_one _
          case c3 => unfold maxLen; omega
          case c4 => omega
          case c5 => have := HB1.out.size; simp; omega
          intro v' w2 hown' hgrow _
          have HO2 : Hid (w2.ownsRow w.heap.size 34 3 v' (a ++ [(⟨kind, text, k⟩ : Tok)]).length (rowCells (a ++ [⟨kind, text, k⟩]))) := Lib.hid (by rw [rowCells_snoc]; simpa using hown')
          have HB2 : Hid (Below w.heap.size w w2) := Lib.hid ((HB1.out.alloc HB1.out.size _).grown hgrow (by have := HB1.out.size; simp; omega) (fun j hj => (HO1.out.lt j hj).1))
          clear hown' hgrow HO1 HB1
          go_wp2_with fail
          go_roundw
          case rel => exact ⟨k + size, _, by go_num, hres, HO2, HB2⟩
          case measure => simp [intOf]; omega
      · rw [h32] at e32
        have hres := Lib.hid (hq.out.blank h32)
        go_wp2_with fail
        go_roundw
        case rel => exact ⟨k + 1, a, by go_num, hres, hown, hbel⟩
        case measure => simp [intOf]; omega
    · have hres := Lib.hid (hq.out.done hlt)
      go_wp2_with (at_builtin; refine wpList_append_own _ rfl _ _ 23 rfl w.heap.size 34 i0 (.agg #[.int .i64 0, .string ⟨#[]⟩, .int .i64 0]) 3 32 Tryd.underlying23 hi hz0 hz1 hz2 rfl (by decide) _ _ _ rfl (hown.out.alloc _) ⟨wr.heap.size, 0, none⟩ 1 1 (tokCells (endTok l.length)) rfl rfl ?d1 ?d2 ?d3 ?d4 ?d5 ?_)
      case d1 => exact tok_news (endTok l.length)
      case d2 => exact tok_one _
      case d3 => unfold maxLen; omega
      case d4 => omega
      case d5 => have := hbel.out.size; simp; omega
      intro v' w2 hown' hgrow _
      have HO2 : Hid (w2.ownsRow w.heap.size 34 3 v' (a.length + 1) (rowCells (a ++ [endTok l.length]))) := Lib.hid (by rw [rowCells_snoc]; exact hown')
      have HB2 : Hid (Below w.heap.size w w2) := Lib.hid ((hbel.out.alloc hbel.out.size _).grown hgrow (by have := hbel.out.size; simp; omega) (fun j hj => (hown.out.lt j hj).1))
      clear hown' hgrow
      go_wp2_with fail
      go_ret3
      rw [hres.out]
      exact ⟨v', rfl, HO2.out, HB2.out⟩
def quoteB : Bs → Bs
  | [] => []
  | c :: l => if c = 34 then 34 :: 34 :: quoteB l else c :: quoteB l
theorem quoteB_app (a b : Bs) : quoteB (a ++ b) = quoteB a ++ quoteB b := by
  induction a with
  | nil => rfl
  | cons c a ih => simp only [List.cons_append, quoteB]; split <;> simp [ih]
theorem quoteB_len (a : Bs) : (quoteB a).length ≤ 2 * a.length := by
  induction a with
  | nil => simp [quoteB]
  | cons c a ih => simp only [quoteB]; split <;> simp only [List.length_cons] <;> omega
theorem pText_quote (b r : Bs) (h : ∀ x, r ≠ 34 :: x) : pText (quoteB b ++ 34 :: r) = some (b, (quoteB b).length + 1) := by
  induction b with
  | nil => exact pText_end r h
  | cons c b ih =>
    simp only [quoteB]
    split
    case isTrue e =>
      subst e
      rw [List.cons_append, List.cons_append, pText_two, ih]
      simp
    case isFalse e =>
      rw [List.cons_append, pText_other _ _ e, ih]
      simp
theorem pText_open (b : Bs) : pText (quoteB b) = none := by
  induction b with
  | nil => rfl
  | cons c b ih =>
    simp only [quoteB]
    split
    case isTrue e => rw [pText_two, ih]; rfl
    case isFalse e => rw [pText_other _ _ e, ih]; rfl
theorem runP_cons_no (p : UInt8 → Bool) (c : UInt8) (l : Bs) (h : p c = false) : runP p (c :: l) = 0 := by simp [runP, h]
theorem atIs_cons (c : UInt8) (l : Bs) (d : UInt8) : atIs (c :: l) 0 d = (c == d) := by
  unfold atIs
  simp
theorem pNumber_none (c : UInt8) (l : Bs) (h : isDigit c = false) (h46 : c ≠ 46) : pNumber (c :: l) = 0 := by
  have e : pNumA (c :: l) = 0 := by
    unfold pNumA
    rw [runP_cons_no _ _ _ h, atIs_cons]
    have : (c == 46) = false := by rw [beq_eq_false_iff_ne]; exact h46
    rw [this]
    rfl
  unfold pNumber pNumE
  rw [e]
  rfl
theorem pToken_quote (l : Bs) : pToken (34 :: l) = pQuoted (34 :: l) := by
  unfold pToken
  rw [pNumber_none 34 l rfl (by decide), if_neg (by omega)]
  simp only [atIs_cons]
  rfl
theorem pLex_quote (b : Bs) : pLex (34 :: (quoteB b ++ [34])) = .ok [⟨2, b, 0⟩] := by
  have e : pToken (34 :: (quoteB b ++ [34])) = (2, b, (quoteB b).length + 2) := by
    rw [pToken_quote]
    unfold pQuoted
    rw [List.drop_succ_cons, List.drop_zero, pText_quote b [] (by intro x h; cases h)]
  unfold pLex
  rw [lexFrom_tok _ _ _ (by decide) (by rw [e]; simp), e]
  simp only
  rw [List.drop_of_length_le (by simp), lexFrom_nil]
  rfl
theorem pLex_open (b : Bs) : pLex (34 :: quoteB b) = .error 0 := by
  have e : pToken (34 :: quoteB b) = (0, [], 0) := by
    rw [pToken_quote]
    unfold pQuoted
    rw [List.drop_succ_cons, List.drop_zero, pText_open]
  unfold pLex
  rw [lexFrom_bad _ _ _ (by decide) (by rw [e])]
end Go.Proofs.YtcgdeoldgnjdeaaDoor
