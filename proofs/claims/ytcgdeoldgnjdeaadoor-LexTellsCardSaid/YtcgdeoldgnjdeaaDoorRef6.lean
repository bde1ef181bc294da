/-
  counterpaneref05.text: what it returns.
-/
import Derived.Test.YtcgdeoldgnjdeaaDoorRef5
namespace Go.Proofs.YtcgdeoldgnjdeaaDoor
open Go.RowKit

theorem QInv.other {l acc : Bs} {k : Nat} (h : QInv l acc k) (hlt : k < l.length) (hc : atIs l k 34 = false) : QInv l (acc ++ [l[k]]) (k + 1) := by
  have hk := h.1
  have ha := h.2.2.1
  refine ⟨by omega, by omega, by simp; omega, ?_⟩
  rw [h.2.2.2, List.drop_eq_getElem_cons hlt, pText_other _ _ (ne_of_at hlt hc)]
  cases pText (l.drop (k + 1)) with
  | none => rfl
  | some x =>
    simp only [Option.map_some]
    congr 2
    · simp
    · omega
theorem QInv.two {l acc : Bs} {k : Nat} (h : QInv l acc k) (hc : atIs l k 34 = true) (hd : atIs l (k + 1) 34 = true) : QInv l (acc ++ [34]) (k + 2) := by
  have hk := h.1
  have ha := h.2.2.1
  have hlt := at_lt _ _ _ hc
  have hlt2 := at_lt _ _ _ hd
  refine ⟨by omega, by omega, by simp; omega, ?_⟩
  rw [h.2.2.2, List.drop_eq_getElem_cons hlt, List.drop_eq_getElem_cons hlt2, at_get hlt hc, at_get hlt2 hd, pText_two]
  cases pText (l.drop (k + 1 + 1)) with
  | none => rfl
  | some x =>
    simp only [Option.map_some]
    congr 2
    · simp
    · omega
theorem QInv.ends {l acc : Bs} {k : Nat} (h : QInv l acc k) (hc : atIs l k 34 = true) (hd : atIs l (k + 1) 34 = false) : pQuoted l = (2, acc, k + 1) := by
  have hk := h.1
  have hlt := at_lt _ _ _ hc
  unfold pQuoted
  rw [h.2.2.2, List.drop_eq_getElem_cons hlt, at_get hlt hc, pText_end]
  · simp; omega
  · intro r hr
    have h3 : (l.drop (k + 1))[0]? = some 34 := by rw [hr]; rfl
    rw [List.getElem?_drop, Nat.add_zero] at h3
    unfold atIs at hd
    rw [h3] at hd
    cases hd
theorem QInv.out {l acc : Bs} {k : Nat} (h : QInv l acc k) (hlt : ¬ k < l.length) : pQuoted l = (0, [], 0) := by
  unfold pQuoted
  rw [h.2.2.2, List.drop_of_length_le (by omega)]
  rfl
set_option maxRecDepth 100000 in
set_option maxHeartbeats 1600000 in
theorem rtext_any (l : Bs) (w : World) (hp : 0 < l.length) (hs : l.length ≤ 1000000) :
    Calls Tryd.prog 115 #[.string ⟨l.toArray⟩] w fun e w' => e = .returned (.tuple #[.string ⟨(pQuoted l).2.1.toArray⟩, .int .i64 (pQuoted l).2.2]) ∧ w = w' := by
  have HP := Lib.hid (QInv.start l hp)
  go_enter Tryd.func115, Tryd.ntmps115
  go_wp2_with fail
  go_loop [4, 5] (fun s i => ∃ (k : Nat) (acc : Bs), k ≤ l.length ∧ acc.length ≤ k ∧ i = .int .i64 k ∧ s = .string ⟨acc.toArray⟩ ∧ Hid (QInv l acc k)) (fun _ i => l.length + 1 - (intOf i).toNat)
  case atStart => exact ⟨1, [], hp, by simp, rfl, rfl, HP⟩
  case round =>
    obtain ⟨k, acc, hk, hacc, rfl, rfl, hq⟩ := hrel
    clear HP
    by_cases hlt : k < l.length
    · have e1 := at_bne l k 34 34 rfl hlt
      cases h34 : atIs l k 34
      · rw [h34] at e1
        have hq2 := Lib.hid (hq.out.other hlt h34)
        have hsl : Hid (List.take 1 (l.drop k) = [l[k]]) := Lib.hid (by rw [List.drop_eq_getElem_cons hlt]; rfl)
        go_wp2_with fail
        go_round
        case rel => exact ⟨k + 1, acc ++ [l[k]], by omega, by simp; omega, by go_num, str_eq (by rw [hsl.out]), hq2⟩
        case measure => simp [intOf]; omega
      · rw [h34] at e1
        by_cases hlt2 : k + 1 < l.length
        · have e2 := at_beq l (k + 1) 34 34 rfl hlt2
          cases h35 : atIs l (k + 1) 34
          · rw [h35] at e2
            have hr := Lib.hid (hq.out.ends h34 h35)
            go_wp2_with fail
            go_ret2
            exact ⟨by rw [hr.out]; rfl, rfl⟩
          · rw [h35] at e2
            have hq2 := Lib.hid (hq.out.two h34 h35)
            go_wp2_with fail
            go_round
            case rel => exact ⟨k + 2, _, by omega, by simp; omega, by go_num, str_eq rfl, hq2⟩
            case measure => simp [intOf]; omega
        · have hr := Lib.hid (hq.out.ends h34 (at_out _ _ _ (by omega)))
          go_wp2_with fail
          go_ret2
          exact ⟨by rw [hr.out]; rfl, rfl⟩
    · have hr := Lib.hid (hq.out.out hlt)
      go_wp2_with fail
      go_ret2
      exact ⟨by rw [hr.out]; rfl, rfl⟩
end Go.Proofs.YtcgdeoldgnjdeaaDoor
