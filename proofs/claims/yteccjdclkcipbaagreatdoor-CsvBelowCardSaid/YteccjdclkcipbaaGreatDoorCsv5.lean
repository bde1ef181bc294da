/-
  counterpaneref32.line, Rows.
-/
import Derived.Test.YteccjdclkcipbaaGreatDoorCsv2
import Derived.Deep.LoopGhost
import Derived.Test.YteccjdclkcipbaaGreatDoorCsv3
namespace Go.Proofs.YteccjdclkcipbaaGreatDoor
open Go.RowKit

def RLinePost (l : Bs) (R : List Bs × Bs × Int) (w : World) (e : Ending) (w' : World) : Prop :=
  ∃ (v : Value) (p : Nat), e = .returned (.tuple #[v, .int .i64 (p : Int), .int .i64 R.2.2]) ∧ w'.ownsRow w.heap.size 9 1 v R.1.length (R.1.map wordV) ∧ (R.2.2 = 0 → p ≤ l.length ∧ l.drop p = R.2.1) ∧ Below w.heap.size w w'
theorem dropAt (l : Bs) (b : Nat) (h : b < l.length) : l.drop b = l[b] :: l.drop (b + 1) := List.drop_eq_getElem_cons h
theorem atDrop0 (l : Bs) (a : Nat) (c : UInt8) : atIs (l.drop a) 0 c = atIs l a c := by
  unfold atIs
  rw [List.getElem?_drop, Nat.add_zero]
theorem field_q (l : Bs) (a : Nat) (h : atIs l a 34 = true) : cField (l.drop a) = qRun [] (l.drop (a + 1)) := by
  unfold cField
  rw [atDrop0, h, if_pos rfl, List.drop_drop]
theorem field_u (l : Bs) (a p : Nat) (hap : a ≤ p) (hpl : p ≤ l.length) (h : atIs l a 34 = false) (hb : ∀ j (hj : j < l.length), a ≤ j → j < p → isSep l[j] = false) :
    (p = l.length → cField (l.drop a) = ([], [], 13)) ∧ (∀ hp : p < l.length, isSep l[p] = true → cField (l.drop a) = if atIs l p 34 = true ∨ atIs l p 13 = true then ([], [], 6) else ((l.drop a).take (p - a), l.drop p, 0)) := by
  have hu : ∀ (hs : ∀ hp : p < l.length, isSep l[p] = true), uLen (l.drop a) = p - a := fun hs => uLen_is _ _ (by rw [List.length_drop]; omega) (fun j hj hjp => by
      rw [List.length_drop] at hj
      rw [List.getElem_drop]
      exact hb (a + j) (by omega) (by omega) (by omega)) (fun hj => by
      rw [List.length_drop] at hj
      rw [List.getElem_drop]
      have := hs (by omega)
      simp only [show a + (p - a) = p by omega]
      exact this)
  constructor
  · intro hp
    have hu2 := hu (fun h => by omega)
    unfold cField
    rw [atDrop0, h, if_neg (by decide), hu2, if_pos (by rw [List.length_drop]; omega)]
  · intro hp hs
    have hu2 := hu (fun _ => hs)
    have ea : ∀ c, atIs (l.drop a) (p - a) c = atIs l p c := fun c => by
      unfold atIs
      rw [List.getElem?_drop, show a + (p - a) = p by omega]
    unfold cField
    rw [atDrop0, h, if_neg (by decide), hu2, if_neg (by rw [List.length_drop]; omega), ea, ea, List.drop_drop, show a + (p - a) = p by omega]
theorem sep_at (l : Bs) (b : Nat) (h : b < l.length) : isSep l[b] = (atIs l b 44 || atIs l b 34 || atIs l b 10 || atIs l b 13) := by
  have e : ∀ c, atIs l b c = (l[b] == c) := fun c => by
    unfold atIs
    rw [List.getElem?_eq_getElem h, Bool.eq_iff_iff]
    simp
  rw [e, e, e, e]
  rfl
theorem at_excl' {l : Bs} {i : Nat} {a b : UInt8} (h : atIs l i a = true) (hab : a ≠ b) : atIs l i b = false := by
  unfold atIs at h ⊢
  rw [beq_iff_eq] at h
  rw [h, beq_eq_false_iff_ne]
  intro e
  exact hab (Option.some.inj e)
theorem take1 (l : Bs) (b : Nat) (h : b < l.length) (acc : Bs) : acc ++ List.take 1 (List.drop b l) = acc ++ [l[b]] := by
  rw [List.drop_eq_getElem_cons h]; rfl
set_option maxRecDepth 100000 in
set_option maxHeartbeats 6400000 in
theorem rline32_any (l : Bs) (a0 : Nat) (w : World) (hl : l.length ≤ 1000000) (ha0 : a0 ≤ l.length) :
    Calls Tryz.prog 42 #[.string ⟨l.toArray⟩, .int .i64 (a0 : Int)] w (RLinePost l (cLine (l.drop a0) []) w) := by
  obtain ⟨i0, hi, hz0, hz1, hz2⟩ := info_parts infoString
  obtain ⟨R, hR⟩ : ∃ R, cLine (l.drop a0) [] = R := ⟨_, rfl⟩
  rw [hR]
  have HR := Lib.hid hR
  clear hR
  go_enter Tryz.func42, Tryz.ntmps42
  go_wp2_with fail
  go_loopg [1, 7] (l.length + 1 - a0) (fun gk v1 v7 wr => ∃ (a : Nat) (ws : List Bs), v1 = .int .i64 (a : Int) ∧ gk = l.length + 1 - a ∧ a ≤ l.length ∧ ws.length ≤ a ∧ Hid (cLine (l.drop a) ws = R) ∧ wr.ownsRow w.heap.size 9 1 v7 ws.length (ws.map wordV) ∧ Hid (Below w.heap.size w wr))
  case atStart => exact ⟨a0, [], rfl, rfl, ha0, Nat.zero_le _, HR, World.ownsRow_nil _ _ _ _, Lib.hid (Below.refl _ _)⟩
  case round =>
    obtain ⟨a, ws, rfl, rfl, hal, hwl, hq, hown, hbel⟩ := hrel
    have HO := Lib.hid hown
    clear HR hown
    have hst := Lib.hid (cLine_step (l.drop a) ws)
    rw [hq.out] at hst
    have hnil : Hid (l.length ≤ a → cField (l.drop a) = ([], [], 13)) := Lib.hid (fun h => by rw [List.drop_of_length_le h]; rfl)
    obtain ⟨C, hC⟩ : ∃ C, cField (l.drop a) = C := ⟨_, rfl⟩
    have HC := Lib.hid hC
    rw [hC] at hst
    clear hC hq
    go_upto_region 3 with fail
    go_cut [18] (fun v wx => v = .bool (atIs l a 34) ∧ wr = wx)
    case first =>
      clear HO hbel
      by_cases hlt : a < l.length
      · have e34 := at_beq l a 34 34 rfl hlt
        go_wp2_with fail
        go_meet
        exact ⟨rfl, rfl⟩
      · have h34 : atIs l a 34 = false := by rw [Bool.eq_false_iff]; intro e; exact hlt (at_lt _ _ _ e)
        go_wp2_with fail
        go_meet
        exact ⟨by rw [h34], rfl⟩
    case rest =>
      obtain ⟨rfl, rfl⟩ := hcut
      go_upto_if 18 with fail
      go_cut [1, 8] (fun v1 v8 wx => ∃ (p : Nat) (acc : Bs), v1 = .int .i64 (p : Int) ∧ v8 = .string ⟨acc.toArray⟩ ∧ a ≤ p ∧ p ≤ l.length ∧ acc.length ≤ p ∧ Hid (p < l.length → C = (acc, l.drop p, 0)) ∧ Hid (p = l.length → C = ([], [], 13)) ∧ wr = wx)
      case first =>
        cases h34 : atIs l a 34
        · have hF := Lib.hid (fun p hap hpl hb => field_u l a p hap hpl h34 hb)
          rw [HC.out] at hF
          clear HO h34 hnil
          go_wp2_with fail
          go_loop [1, 8] (fun v1 v8 => ∃ (b : Nat) (acc : Bs), v1 = .int .i64 (b : Int) ∧ v8 = .string ⟨acc.toArray⟩ ∧ a ≤ b ∧ b ≤ l.length ∧ acc.length ≤ b ∧ Hid (acc = (l.drop a).take (b - a)) ∧ Hid (∀ j (hj : j < l.length), a ≤ j → j < b → isSep l[j] = false)) (fun v1 _ => l.length - (intOf v1).toNat)
          case atStart => exact ⟨a, [], rfl, rfl, Nat.le_refl _, hal, Nat.zero_le _, Lib.hid (by rw [Nat.sub_self]; rfl), Lib.hid (fun j _ h1 h2 => by omega)⟩
          case round =>
            obtain ⟨b, acc, rfl, rfl, hab, hbl, hacl, hac, hno⟩ := hrel
            by_cases hlt : b < l.length
            · have e44 := at_bne l b 44 44 rfl hlt
              have e10 := at_bne l b 10 10 rfl hlt
              have e34 := at_beq l b 34 34 rfl hlt
              have e13 := at_beq l b 13 13 rfl hlt
              have hsep := sep_at l b hlt
              cases k44 : atIs l b 44
              · rw [k44] at e44 hsep
                cases k10 : atIs l b 10
                · rw [k10] at e10 hsep
                  cases k34 : atIs l b 34
                  · rw [k34] at e34 hsep
                    cases k13 : atIs l b 13
                    · rw [k13] at e13 hsep
                      have hno2 : Hid (∀ j (hj : j < l.length), a ≤ j → j < b + 1 → isSep l[j] = false) := Lib.hid (fun j hj h1 h2 => by
                        rcases (by omega : j < b ∨ j = b) with g | rfl
                        · exact hno.out j hj h1 g
                        · rw [hsep]; rfl)
                      have hac2 : Hid (acc ++ List.take 1 (List.drop b l) = (l.drop a).take (b + 1 - a)) := Lib.hid (by
                        rw [take1 l b hlt, hac.out, show b + 1 - a = (b - a) + 1 by omega, List.take_succ_eq_append_getElem (by rw [List.length_drop]; omega), List.getElem_drop]
                        simp only [show a + (b - a) = b by omega])
                      have hln : (acc ++ List.take 1 (List.drop b l)).length ≤ b + 1 := by rw [take1 l b hlt]; simp; omega
                      clear hno hac hsep k44 k10 k34 k13
                      go_wp2_with fail
                      go_round
                      case rel => exact ⟨b + 1, _, by go_num, rfl, by omega, by omega, hln, hac2, hno2⟩
                      case measure => simp [intOf]; omega
                    · rw [k13] at e13
                      have hr : Hid (R = ([], [], 6)) := Lib.hid (by
                        have h := (hF.out b hab hbl (fun j hj h1 h2 => hno.out j hj h1 h2)).2 hlt (by rw [hsep, k13]; simp)
                        rw [if_pos (.inr k13)] at h
                        rw [hst.out, h]; rfl)
                      clear hno hac hsep k44 k10 k34 k13 hF hst HC
                      go_wp2_with fail
                      go_ret3
                      exact ⟨.slice none 0 0, 0, by rw [hr.out]; rfl, by rw [hr.out]; exact World.ownsRow_nil _ _ _ _, (fun h => by rw [hr.out] at h; cases h), hbel.out⟩
                  · rw [k34] at e34
                    have hr : Hid (R = ([], [], 6)) := Lib.hid (by
                      have h := (hF.out b hab hbl (fun j hj h1 h2 => hno.out j hj h1 h2)).2 hlt (by rw [hsep, k34]; simp)
                      rw [if_pos (.inl k34)] at h
                      rw [hst.out, h]; rfl)
                    clear hno hac hsep k44 k10 k34 hF hst HC e13
                    go_wp2_with fail
                    go_ret3
                    exact ⟨.slice none 0 0, 0, by rw [hr.out]; rfl, by rw [hr.out]; exact World.ownsRow_nil _ _ _ _, (fun h => by rw [hr.out] at h; cases h), hbel.out⟩
                · rw [k10] at e10
                  have hC1 : Hid (C = (acc, l.drop b, 0)) := Lib.hid (by
                    have h := (hF.out b hab hbl (fun j hj h1 h2 => hno.out j hj h1 h2)).2 hlt (by rw [hsep, k10]; simp)
                    have n34 := at_excl' k10 (show (10 : UInt8) ≠ 34 by decide)
                    have n13 := at_excl' k10 (show (10 : UInt8) ≠ 13 by decide)
                    rw [n34, n13, if_neg (by simp)] at h
                    rw [h, hac.out])
                  clear hno hac hsep k44 k10 hF hst HC e13 e34
                  go_wp2_with fail
                  go_meet
                  exact ⟨b, acc, rfl, rfl, hab, hbl, hacl, Lib.hid (fun _ => hC1.out), Lib.hid (fun h => by omega), rfl⟩
              · rw [k44] at e44
                have hC1 : Hid (C = (acc, l.drop b, 0)) := Lib.hid (by
                  have h := (hF.out b hab hbl (fun j hj h1 h2 => hno.out j hj h1 h2)).2 hlt (by rw [hsep, k44]; simp)
                  have n34 := at_excl' k44 (show (44 : UInt8) ≠ 34 by decide)
                  have n13 := at_excl' k44 (show (44 : UInt8) ≠ 13 by decide)
                  rw [n34, n13, if_neg (by simp)] at h
                  rw [h, hac.out])
                clear hno hac hsep k44 hF hst HC e13 e34 e10
                go_wp2_with fail
                go_meet
                exact ⟨b, acc, rfl, rfl, hab, hbl, hacl, Lib.hid (fun _ => hC1.out), Lib.hid (fun h => by omega), rfl⟩
            · have hC2 : Hid (C = ([], [], 13)) := Lib.hid ((hF.out b hab hbl (fun j hj h1 h2 => hno.out j hj h1 h2)).1 (by omega))
              clear hno hac hF hst HC
              go_wp2_with fail
              go_meet
              exact ⟨b, acc, rfl, rfl, hab, hbl, hacl, Lib.hid (fun h => by omega), Lib.hid (fun _ => hC2.out), rfl⟩
        · have hQ : Hid (qRun [] (l.drop (a + 1)) = C) := Lib.hid (by rw [← HC.out, field_q l a h34])
          have halt := at_lt _ _ _ h34
          clear HO h34 hnil HC
          go_wp2_with fail
          go_loop [1, 8] (fun v1 v8 => ∃ (b : Nat) (acc : Bs), v1 = .int .i64 (b : Int) ∧ v8 = .string ⟨acc.toArray⟩ ∧ a < b ∧ b ≤ l.length ∧ acc.length ≤ b ∧ Hid (qRun acc (l.drop b) = C)) (fun v1 _ => l.length - (intOf v1).toNat)
          case atStart => exact ⟨a + 1, [], by go_num, rfl, by omega, by omega, Nat.zero_le _, hQ⟩
          case round =>
            obtain ⟨b, acc, rfl, rfl, hab, hbl, hacl, hq⟩ := hrel
            clear hQ
            by_cases hlt : b < l.length
            · have e34 := at_beq l b 34 34 rfl hlt
              have hlen3 : ¬ (l.length : Int) ≤ (b : Int) := by omega
              have hd := dropAt l b hlt
              cases k34 : atIs l b 34
              · rw [k34] at e34
                have hq2 : Hid (qRun (acc ++ List.take 1 (List.drop b l)) (l.drop (b + 1)) = C) := Lib.hid (by
                  have hne : l[b] ≠ 34 := by
                    intro e
                    unfold atIs at k34
                    rw [List.getElem?_eq_getElem hlt, e] at k34
                    simp at k34
                  rw [take1 l b hlt, ← hq.out, hd, qRun_other _ _ _ hne])
                have hln : (acc ++ List.take 1 (List.drop b l)).length ≤ b + 1 := by rw [take1 l b hlt]; simp; omega
                clear hq hd k34
                go_wp2_with fail
                go_round
                case rel => exact ⟨b + 1, _, by go_num, rfl, by omega, by omega, hln, hq2⟩
                case measure => simp [intOf]; omega
              · rw [k34] at e34
                have hb34 : l[b] = 34 := by
                  unfold atIs at k34
                  rw [List.getElem?_eq_getElem hlt] at k34
                  simpa using k34
                rw [hb34] at hd
                by_cases hlt2 : b + 1 < l.length
                · have hd2 := dropAt l (b + 1) hlt2
                  have f34 := at_beq l (b + 1) 34 34 rfl hlt2
                  have f44 := at_bne l (b + 1) 44 44 rfl hlt2
                  have f10 := at_bne l (b + 1) 10 10 rfl hlt2
                  have hq2 : Hid (C = if l[b + 1] = 34 then qRun (acc ++ [34]) (l.drop (b + 1 + 1)) else if l[b + 1] = 44 ∨ l[b + 1] = 10 then (acc, l.drop (b + 1), 0) else ([], [], 6)) := Lib.hid (by
                    rw [← hq.out, hd, hd2, qRun_quote])
                  have hat : ∀ c, atIs l (b + 1) c = true → l[b + 1] = c := fun c h => by
                    unfold atIs at h
                    rw [List.getElem?_eq_getElem hlt2] at h
                    simpa using h
                  have hnt : ∀ c, atIs l (b + 1) c = false → l[b + 1] ≠ c := fun c h e => by
                    unfold atIs at h
                    rw [List.getElem?_eq_getElem hlt2, e] at h
                    simp at h
                  cases j34 : atIs l (b + 1) 34
                  · rw [j34] at f34
                    cases j44 : atIs l (b + 1) 44
                    · rw [j44] at f44
                      cases j10 : atIs l (b + 1) 10
                      · rw [j10] at f10
                        have hr : Hid (R = ([], [], 6)) := Lib.hid (by
                          have h := hq2.out
                          rw [if_neg (hnt _ j34), if_neg (by rintro (e | e); exact hnt _ j44 e; exact hnt _ j10 e)] at h
                          rw [hst.out, h]; rfl)
                        clear hq hq2 hd hd2 hat hnt j34 j44 j10 k34 hb34 hst
                        go_wp2_with fail
                        go_ret3
                        exact ⟨.slice none 0 0, 0, by rw [hr.out]; rfl, by rw [hr.out]; exact World.ownsRow_nil _ _ _ _, (fun h => by rw [hr.out] at h; cases h), hbel.out⟩
                      · rw [j10] at f10
                        have hC1 : Hid (C = (acc, l.drop (b + 1), 0)) := Lib.hid (by
                          have h := hq2.out
                          rw [if_neg (hnt _ j34), if_pos (.inr (hat _ j10))] at h
                          exact h)
                        clear hq hq2 hd hd2 hat hnt j34 j44 j10 k34 hb34 hst
                        go_wp2_with fail
                        go_meet
                        exact ⟨b + 1, acc, by go_num, rfl, by omega, by omega, by omega, Lib.hid (fun _ => hC1.out), Lib.hid (fun h => by omega), rfl⟩
                    · rw [j44] at f44
                      have hC1 : Hid (C = (acc, l.drop (b + 1), 0)) := Lib.hid (by
                        have h := hq2.out
                        rw [if_neg (hnt _ j34), if_pos (.inl (hat _ j44))] at h
                        exact h)
                      clear hq hq2 hd hd2 hat hnt j34 j44 k34 hb34 hst f10
                      go_wp2_with fail
                      go_meet
                      exact ⟨b + 1, acc, by go_num, rfl, by omega, by omega, by omega, Lib.hid (fun _ => hC1.out), Lib.hid (fun h => by omega), rfl⟩
                  · rw [j34] at f34
                    have hq3 : Hid (qRun (acc ++ [34]) (l.drop (b + 1 + 1)) = C) := Lib.hid (by
                      have h := hq2.out
                      rw [if_pos (hat _ j34)] at h
                      exact h.symm)
                    clear hq hq2 hd hd2 hat hnt j34 k34 hb34 f44 f10
                    go_wp2_with fail
                    go_round
                    case rel => exact ⟨b + 1 + 1, acc ++ [34], by go_num, rfl, by omega, by omega, by simp; omega, hq3⟩
                    case measure => simp [intOf]; omega
                · have hC2 : Hid (C = ([], [], 13)) := Lib.hid (by
                    rw [← hq.out, hd, List.drop_of_length_le (by omega), qRun_end])
                  have hlen4 : ¬ (b : Int) + 1 < (l.length : Int) := by omega
                  clear hq hd k34 hb34
                  go_wp2_with fail
                  go_meet
                  exact ⟨b + 1, acc, by go_num, rfl, by omega, by omega, by omega, Lib.hid (fun h => by omega), Lib.hid (fun _ => hC2.out), rfl⟩
            · have hr : Hid (R = ([], [], 13)) := Lib.hid (by
                have h : C = ([], [], 13) := by rw [← hq.out, List.drop_of_length_le (by omega), qRun_nil]
                rw [hst.out, h]; rfl)
              have hlen3 : (l.length : Int) ≤ (b : Int) := by omega
              clear hq hst
              go_wp2_with fail
              go_ret3
              exact ⟨.slice none 0 0, 0, by rw [hr.out]; rfl, by rw [hr.out]; exact World.ownsRow_nil _ _ _ _, (fun h => by rw [hr.out] at h; cases h), hbel.out⟩
      case rest =>
        obtain ⟨p, acc, rfl, rfl, hap, hpl, hacc, hC1, hC2, rfl⟩ := hcut
        by_cases hlt : p < l.length
        · have hC3 := Lib.hid (hC1.out hlt)
          rw [hC3.out] at hst
          have e10 := at_beq l p 10 10 rfl hlt
          have hlen3 : ¬ (l.length : Int) ≤ (p : Int) := by omega
          clear hC1 hC2 hC3 HC hnil
          dsimp only at hst
          go_wp2_with (at_builtin; refine wpList_append_own _ rfl _ _ 56 rfl w.heap.size 9 i0 (.string ⟨#[]⟩) 1 16 Tryz.underlying56 hi hz0 hz1 hz2 rfl (by decide) _ _ _ rfl (HO.out.alloc _) ⟨wr.heap.size, 0, none⟩ 1 1 [.string ⟨acc.toArray⟩] rfl rfl ?c1 ?c2 ?c3 ?c4 ?c5 ?_)
          try
            case c1 =>
              intro j u hj
              match j, hj with
              | 0, hj => simp at hj; subst hj; simp [Addr.add]
          case c2 => first | rfl | (intro u hu; simp at hu; subst hu; rfl)
          case c3 => unfold maxLen; omega
          case c4 => omega
          case c5 => have := hbel.out.size; simp; omega
          intro v' w2 hown' hgrow _
          have HO2 : Hid (w2.ownsRow w.heap.size 9 1 v' (ws ++ [acc]).length ((ws ++ [acc]).map wordV)) := Lib.hid (by simpa using hown')
          have hbel2 := Lib.hid ((hbel.out.alloc hbel.out.size (.cells #[.string ⟨acc.toArray⟩] 9)).grown hgrow (by have := hbel.out.size; simp; omega) (fun k hk => (HO.out.lt k hk).1))
          clear hown' hgrow HO hbel
          cases h10 : atIs l p 10
          · rw [h10] at e10
            have hq2 : Hid (cLine (l.drop (p + 1)) (ws ++ [acc]) = R) := Lib.hid (by
              have := hst.out
              rw [if_neg (by simp), atDrop0, h10, if_neg (by decide), List.drop_drop] at this
              exact this.symm)
            clear hst h10
            go_wp2_with fail
            go_roundg (l.length + 1 - (p + 1))
            case rel => exact ⟨p + 1, ws ++ [acc], by go_num, rfl, by omega, by simp; omega, hq2, HO2.out, hbel2⟩
            case measure => omega
          · rw [h10] at e10
            have hr : Hid (R = (ws ++ [acc], l.drop (p + 1), 0)) := Lib.hid (by
              have := hst.out
              rw [if_neg (by simp), atDrop0, h10, if_pos rfl, List.drop_drop] at this
              exact this)
            clear hst h10
            go_wp2_with fail
            go_ret3
            exact ⟨v', p + 1, by rw [hr.out]; rfl, by rw [hr.out]; exact HO2.out, fun _ => ⟨by omega, by rw [hr.out]⟩, hbel2.out⟩
        · have hr : Hid (R = ([], [], 13)) := Lib.hid (by rw [hst.out, hC2.out (by omega)]; rfl)
          have hlen3 : (l.length : Int) ≤ (p : Int) := by omega
          clear hst hC1 hC2 HC hnil
          go_wp2_with fail
          go_ret3
          exact ⟨.slice none 0 0, 0, by rw [hr.out]; rfl, by rw [hr.out]; exact World.ownsRow_nil _ _ _ _, (fun h => by rw [hr.out] at h; cases h), hbel.out⟩
theorem own_two {w : World} {b1 b2 : Nat} {e1 e2 : TypeId} {z1 z2 : Nat} {v1 v2 : Value} {n1 n2 : Nat} {x1 x2 : List Value} (h1 : w.ownsRow b1 e1 z1 v1 n1 x1) (h2 : w.ownsRow b2 e2 z2 v2 n2 x2) (he : e1 ≠ e2) : v1.ownBlock = none ∨ v1.ownBlock ≠ v2.ownBlock := by
  rcases h1.2 with ⟨rfl, _⟩ | ⟨g1, c1, k1, rfl, _, a1, _⟩
  · exact .inl rfl
  · rcases h2.2 with ⟨rfl, _⟩ | ⟨g2, c2, k2, rfl, _, a2, _⟩
    · exact .inr (by simp [Value.ownBlock])
    · refine .inr fun e => ?_
      simp only [Value.ownBlock, Option.some.injEq] at e
      subst e
      rw [a1] at a2
      injection a2 with a2
      injection a2 with _ a2 _
      exact he a2
theorem own_slice {w : World} {base : Nat} {e : TypeId} {size : Nat} {v : Value} {n : Nat} {xs : List Value} (h : w.ownsRow base e size v n xs) : ∃ A c, v = .slice A n c := by
  rcases h.2 with ⟨rfl, h0⟩ | ⟨g, cap, cur, rfl, _⟩
  · exact ⟨none, 0, by rw [h0]⟩
  · exact ⟨_, cap, rfl⟩
/-- rows of words in memory -/
def RowsAt (w : World) (base : Nat) (v : Value) (rows : List (List Bs)) : Prop := ∃ vs : List Value, vs.length = rows.length ∧ w.ownsRow base 56 1 v rows.length vs ∧ ∀ (i : Nat) u r, vs[i]? = some u → rows[i]? = some r → w.ownsRow base 9 1 u r.length (r.map wordV)
theorem RowsAt.next {w w' : World} {base : Nat} {v : Value} {rows : List (List Bs)} (h : RowsAt w base v rows) (hb : Below w.heap.size w w') : RowsAt w' base v rows := by
  obtain ⟨vs, h1, h2, h3⟩ := h
  exact ⟨vs, h1, own_next hb h2, fun i u r hu hr => own_next hb (h3 i u r hu hr)⟩
theorem RowsAt.nil (w : World) (base : Nat) : RowsAt w base (.slice none 0 0) [] := ⟨[], rfl, World.ownsRow_nil _ _ _ _, fun i u r hu _ => by simp at hu⟩
theorem infoStrs : (Tryz.prog.info? 56).map (fun i => (i.zero, i.size, i.bytes)) = some (some (.slice none 0 0), 1, 24) := by kernel_rfl
def RRowsPost (R : List (List Bs) × Int) (w : World) (e : Ending) (w' : World) : Prop :=
  ∃ v, e = .returned (.tuple #[v, .int .i64 R.2]) ∧ RowsAt w' w.heap.size v R.1 ∧ Below w.heap.size w w'
theorem cRows_len : ∀ (n : Nat) (l : Bs) (acc : List (List Bs)), l.length ≤ n → (cRows l acc).1.length ≤ acc.length + l.length := by
  intro n
  induction n with
  | zero =>
    intro l acc hl
    obtain rfl := List.eq_nil_of_length_eq_zero (by omega : l.length = 0)
    rw [cRows_step, if_pos rfl]
    exact Nat.le_add_right _ _
  | succ n ih =>
    intro l acc hl
    rw [cRows_step]
    split
    · exact Nat.le_add_right _ _
    · split
      · exact Nat.le_add_right _ _
      · rename_i _ h0
        have h := (cLine_len l.length l [] (Nat.le_refl _) (Decidable.not_not.1 h0)).1
        have := ih (cLine l []).2.1 (acc ++ [(cLine l []).1]) (by omega)
        rw [List.length_append, List.length_singleton] at this
        omega
set_option maxRecDepth 100000 in
set_option maxHeartbeats 6400000 in
theorem rrows32_any (l : Bs) (w : World) (hl : l.length ≤ 1000000) :
    Calls Tryz.prog 25 #[.string ⟨l.toArray⟩] w (RRowsPost (cRows l []) w) := by
  obtain ⟨i0, hi, hz0, hz1, hz2⟩ := info_parts infoStrs
  obtain ⟨R, hR⟩ : ∃ R, cRows l [] = R := ⟨_, rfl⟩
  rw [hR]
  have HR : Hid (cRows (l.drop 0) [] = R) := Lib.hid (by rw [List.drop_zero]; exact hR)
  clear hR
  go_enter Tryz.func25, Tryz.ntmps25
  go_wp2_with fail
  go_loopw [4, 5] (fun v4 v5 wr => ∃ (a : Nat) (rows : List (List Bs)), v5 = .int .i64 (a : Int) ∧ a ≤ l.length ∧ rows.length ≤ a ∧ Hid (cRows (l.drop a) rows = R) ∧ Hid (RowsAt wr w.heap.size v4 rows) ∧ Hid (Below w.heap.size w wr)) (fun _ v5 _ => l.length - (intOf v5).toNat)
  case atStart => exact ⟨0, [], rfl, Nat.zero_le _, Nat.le_refl _, HR, Lib.hid (RowsAt.nil _ _), Lib.hid (Below.refl _ _)⟩
  case round =>
    obtain ⟨a, rows, rfl, hal, hra, hq, hrw, hbel⟩ := hrel
    clear HR
    obtain ⟨vs, hvl, hown, hrs⟩ := hrw.out
    obtain ⟨A4, c4, rfl⟩ := own_slice hown
    have HO := Lib.hid hown
    have HV := Lib.hid hvl
    have HRs := Lib.hid hrs
    clear hown hvl hrs
    by_cases hlt : a < l.length
    · have CL := Lib.hid (fun W => rline32_any l a W hl hal)
      have hst := Lib.hid (cRows_step (l.drop a) rows)
      rw [hq.out] at hst
      have hln := Lib.hid (cLine_len _ (l.drop a) [] (Nat.le_refl _))
      have hne : Hid (l.drop a ≠ []) := Lib.hid (fun h => by have := congrArg List.length h; rw [List.length_drop] at this; simp at this; omega)
      generalize cLine (l.drop a) [] = L at *
      obtain ⟨ws, rest, er⟩ := L
      dsimp only at hst hln
      clear hq
      go_wp2_with fail
      refine (CL.out _).mono ?_
      rintro e w1 ⟨u, p, rfl, hu, hp, hb⟩
      dsimp only at hu hp
      obtain ⟨A6, c6, rfl⟩ := own_slice hu
      have HU := Lib.hid (own_down (b2 := w.heap.size) hu hbel.out.size)
      have HO1 := Lib.hid (own_next hb HO.out)
      have HRs1 := Lib.hid (fun i u r h1 h2 => own_next hb (HRs.out i u r h1 h2))
      have hbel1 := Lib.hid (hbel.out.trans (hb.mono hbel.out.size))
      have hrw1 := Lib.hid (hrw.out.next hb)
      have HP := Lib.hid hp
      clear hb hu hp hbel HO HRs hrw CL
      by_cases h0 : er = 0
      · subst h0
        obtain ⟨hp1, hp2⟩ := HP.out rfl
        have HP2 := Lib.hid hp2
        have hl3 := hln.out rfl
        rw [List.length_drop] at hl3
        have hpa : a < p := by have := hl3.1; rw [← HP2.out, List.length_drop] at this; omega
        have hq2 : Hid (cRows (l.drop p) (rows ++ [ws]) = R) := Lib.hid (by rw [hst.out, if_neg hne.out, if_neg (by simp), HP2.out])
        clear hst hne hln HP hp2 HP2 hl3
        go_wp2_with (at_builtin; refine wpList_append_own _ rfl _ _ 59 rfl w.heap.size 56 i0 (.slice none 0 0) 1 24 Tryz.underlying59 hi hz0 hz1 hz2 rfl (by decide) _ _ _ rfl (HO1.out.alloc _) ⟨w1.heap.size, 0, none⟩ 1 1 [.slice A6 ws.length c6] rfl rfl ?c1 ?c2 ?c3 ?c4 ?c5 ?_)
        try
          case c1 =>
            intro j u hj
            match j, hj with
            | 0, hj => simp at hj; subst hj; simp [Addr.add]
        try
          case c2 => first | rfl | (intro u hu; simp at hu; subst hu; rfl)
        case c3 => unfold maxLen; omega
        case c4 => omega
        case c5 => have := hbel1.out.size; simp; omega
        intro v' w2 hown' hgrow _
        have hrw2 : Hid (RowsAt w2 w.heap.size v' (rows ++ [ws])) := Lib.hid (by
          refine ⟨vs ++ [.slice A6 ws.length c6], by simp [HV.out], by simpa using hown', fun i u r h1 h2 => ?_⟩
          rcases Nat.lt_or_ge i vs.length with hi' | hi'
          · rw [List.getElem?_append_left hi'] at h1
            rw [List.getElem?_append_left (by rw [← HV.out]; exact hi')] at h2
            exact ((HRs1.out i u r h1 h2).alloc _).kept hgrow (own_two (HRs1.out i u r h1 h2) HO1.out (by decide))
          · rw [List.getElem?_append_right hi'] at h1
            rw [List.getElem?_append_right (by rw [← HV.out]; exact hi'), ← HV.out] at h2
            obtain ⟨k, hk⟩ : ∃ k, i - vs.length = k := ⟨_, rfl⟩
            rw [hk] at h1 h2
            cases k with
            | zero =>
              simp at h1 h2
              subst h1
              subst h2
              exact (HU.out.alloc _).kept hgrow (own_two HU.out HO1.out (by decide))
            | succ k => simp at h1)
        have hbel2 := Lib.hid ((hbel1.out.alloc hbel1.out.size (.cells #[.slice A6 ws.length c6] 56)).grown hgrow (by have := hbel1.out.size; simp; omega) (fun k hk => (HO1.out.lt k hk).1))
        obtain ⟨A7, c7, rfl⟩ := own_slice hown'
        clear hown' hgrow HO1 HU HV HRs1 hbel1 hrw1
        go_wp2_with fail
        go_roundw
        case rel => exact ⟨p, rows ++ [ws], rfl, hp1, by simp; omega, hq2, hrw2, hbel2⟩
        case measure => simp [intOf]; omega
      · have hr : Hid (R = (rows, er)) := Lib.hid (by rw [hst.out, if_neg hne.out, if_pos h0])
        have b0 : (er != 0) = true := by rw [bne_iff_ne]; exact h0
        clear hst hne hln HP HO1 HU HV HRs1 h0
        go_wp2_with fail
        go_ret2
        exact ⟨_, by rw [hr.out]; rfl, by rw [hr.out]; exact hrw1.out, hbel1.out⟩
    · have hr : Hid (R = (rows, 0)) := Lib.hid (by rw [← hq.out, cRows_step, if_pos (List.drop_of_length_le (by omega))])
      clear hq HO HV HRs
      go_wp2_with fail
      go_ret2
      exact ⟨_, by rw [hr.out]; rfl, by rw [hr.out]; exact hrw.out, hbel.out⟩
end Go.Proofs.YteccjdclkcipbaaGreatDoor
