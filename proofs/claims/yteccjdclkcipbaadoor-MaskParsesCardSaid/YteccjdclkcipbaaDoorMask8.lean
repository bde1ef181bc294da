/-
  mask.Format.section: the section of a number of that sign.
-/
import Derived.Test.YteccjdclkcipbaaDoorMask6
namespace Go.Proofs.YteccjdclkcipbaaDoor
open Go.RowKit

theorem secsC_at : ∀ (vs : List Value) (L : List MS) (i : Nat), vs.length = L.length → (hi : i < L.length) → ∃ u, vs[i]? = some u ∧ (secsC vs L)[3 * i]? = some u ∧ (secsC vs L)[3 * i + 1]? = some (.int .i64 L[i].percents) ∧ (secsC vs L)[3 * i + 2]? = some (.bool L[i].number)
  | [], [], _, _, hi => by simp at hi
  | v :: vs, s :: L, 0, _, _ => ⟨v, rfl, rfl, rfl, rfl⟩
  | v :: vs, s :: L, i + 1, h, hi => by
    obtain ⟨u, h1, h2, h3, h4⟩ := secsC_at vs L i (by simpa using h) (by simpa using hi)
    refine ⟨u, by simpa using h1, ?_, ?_, ?_⟩
    · rw [show 3 * (i + 1) = 3 * i + 1 + 1 + 1 by omega]; simpa [secsC, secC] using h2
    · rw [show 3 * (i + 1) + 1 = 3 * i + 1 + 1 + 1 + 1 by omega]; simpa [secsC, secC] using h3
    · rw [show 3 * (i + 1) + 2 = 3 * i + 2 + 1 + 1 + 1 by omega]; simpa [secsC, secC] using h4
  | [], _ :: _, _, h, _ => by simp at h
  | _ :: _, [], _, h, _ => by simp at h
theorem FmtAt.form {w : World} {v : Value} {L : List MS} (h : FmtAt w v L) (hL : 0 < L.length) : ∃ g cap, v = .slice (some ⟨g, 0, none⟩) L.length cap ∧ g < w.heap.size := by
  obtain ⟨vs, -, h2, -⟩ := h
  obtain ⟨g, cap, e, -, hlt⟩ := h2.form hL
  exact ⟨g, cap, e, hlt⟩
theorem FmtAt.sec {w : World} {g n cap : Nat} {L : List MS} (h : FmtAt w (.slice (some ⟨g, 0, none⟩) n cap) L) (hn : L.length = n) (i : Nat) (hi : i < L.length) : ∃ u, w.cell? ⟨g, 3 * i, none⟩ = some u ∧ w.cell? ⟨g, 3 * i + 1, none⟩ = some (.int .i64 L[i].percents) ∧ w.cell? ⟨g, 3 * i + 2, none⟩ = some (.bool L[i].number) ∧ w.ownsRow 0 95 7 u L[i].parts.length (partsC L[i].parts) := by
  subst hn
  obtain ⟨vs, h1, h2, h3⟩ := h
  obtain ⟨u, k1, k2, k3, k4⟩ := secsC_at vs L i h1 hi
  refine ⟨u, ?_, ?_, ?_, h3 i u L[i] k1 (List.getElem?_eq_getElem hi)⟩
  · rw [h2.cellAt _ (by omega)]; exact k2
  · rw [h2.cellAt _ (by omega)]; exact k3
  · rw [h2.cellAt _ (by omega)]; exact k4
theorem own_put3 {w : World} {u : Value} {n : Nat} {xs : List Value} {b : Nat} {cs : Array Value} (h : w.ownsRow 0 95 7 u n xs) (hl : Lies w b 93 cs) (x0 x1 x2 : Value) : (((w.setCell ⟨b, 0, none⟩ x0).setCell ⟨b, 1, none⟩ x1).setCell ⟨b, 2, none⟩ x2).ownsRow 0 95 7 u n xs := by
  have h0 := ownsRow_setCell_other h (a := ⟨b, 0, none⟩) (lies_apart hl h (by decide)).symm x0
  have l0 := hl.put 0 x0
  have h1 := ownsRow_setCell_other h0 (a := ⟨b, 1, none⟩) (lies_apart l0 h0 (by decide)).symm x1
  have l1 := l0.put 1 x1
  exact ownsRow_setCell_other h1 (a := ⟨b, 2, none⟩) (lies_apart l1 h1 (by decide)).symm x2
theorem own_form {w : World} {base : Nat} {e : TypeId} {size : Nat} {v : Value} {n : Nat} {xs : List Value} (h : w.ownsRow base e size v n xs) : ∃ A c, v = .slice A n c := by
  rcases h.2 with ⟨rfl, rfl⟩ | ⟨g, cap, cur, rfl, _⟩
  · exact ⟨none, 0, rfl⟩
  · exact ⟨_, cap, rfl⟩
def SecPost (w : World) (s : MS) (e : Ending) (w' : World) : Prop := ∃ u, e = .returned (.agg #[u, .int .i64 s.percents, .bool s.number]) ∧ w'.ownsRow 0 95 7 u s.parts.length (partsC s.parts) ∧ Below w.heap.size w w'
set_option maxRecDepth 100000 in
set_option maxHeartbeats 3200000 in
theorem section_any (tx : Bs) (v : Value) (L : List MS) (sg : Int) (w : World) (hF : FmtAt w v L) (h1 : 1 ≤ L.length) (h4 : L.length ≤ 4) :
    Calls Tryd.prog 89 #[.agg #[.string ⟨tx.toArray⟩, v], .int .i64 sg] w (SecPost w (secOf L sg)) := by
  obtain ⟨g, cap, rfl, hlt⟩ := hF.form h1
  have HT : Hid (∀ (i : Nat) (hi : i < L.length) W, Below w.heap.size w W → ∃ u, W.cell? ⟨g, 3 * i, none⟩ = some u ∧ W.cell? ⟨g, 3 * i + 1, none⟩ = some (.int .i64 L[i].percents) ∧ W.cell? ⟨g, 3 * i + 2, none⟩ = some (.bool L[i].number) ∧ W.ownsRow 0 95 7 u L[i].parts.length (partsC L[i].parts)) := Lib.hid (fun i hi W hb => (hF.next hb).sec rfl i hi)
  have hB : Below w.heap.size w ((w.alloc (.cells #[.string ⟨tx.toArray⟩, .slice (some ⟨g, 0, none⟩) L.length cap] 43)).alloc (.cells #[.slice none 0 0, .int .i64 0, .bool false] 93)) := ((Below.refl _ w).alloc (Nat.le_refl _) _).alloc (by simp) _
  have HB := Lib.hid hB
  have HL : Hid (Lies ((w.alloc (.cells #[.string ⟨tx.toArray⟩, .slice (some ⟨g, 0, none⟩) L.length cap] 43)).alloc (.cells #[.slice none 0 0, .int .i64 0, .bool false] 93)) (w.heap.size + 1) 93 #[.slice none 0 0, .int .i64 0, .bool false]) := Lib.hid (by have := Lies.new (w.alloc (.cells #[.string ⟨tx.toArray⟩, .slice (some ⟨g, 0, none⟩) L.length cap] 43)) 93 #[.slice none 0 0, .int .i64 0, .bool false]; simpa using this)
  have b0 : ((L.length : Int) == 0) = false := by rw [beq_eq_false_iff_ne]; omega
  have HS : Hid (secOf L sg = if sg < 0 ∧ 2 ≤ L.length then L.getD 1 ms0 else if sg = 0 ∧ 3 ≤ L.length then L.getD 2 ms0 else L.getD 0 ms0) := Lib.hid (by unfold secOf; rw [if_neg (by omega)])
  generalize hsec : secOf L sg = S at *
  clear hsec hF hB
  obtain ⟨W, hW⟩ : ∃ W, (w.alloc (.cells #[.string ⟨tx.toArray⟩, .slice (some ⟨g, 0, none⟩) L.length cap] 43)).alloc (.cells #[.slice none 0 0, .int .i64 0, .bool false] 93) = W := ⟨_, rfl⟩
  have HBW : Hid (Below w.heap.size w W) := Lib.hid (by rw [← hW]; exact HB.out)
  have HLW : Hid (Lies W (w.heap.size + 1) 93 #[.slice none 0 0, .int .i64 0, .bool false]) := Lib.hid (by rw [← hW]; exact HL.out)
  have bx1 : W.cell? ⟨w.heap.size, 1, none⟩ = some (.slice (some ⟨g, 0, none⟩) L.length cap) := by rw [← hW]; simp
  have q0 := HLW.out.cell 0
  have q1 := HLW.out.cell 1
  have q2 := HLW.out.cell 2
  simp only [List.getElem?_toArray, List.getElem?_cons_zero, List.getElem?_cons_succ] at q0 q1 q2
  have f0 := HLW.out.frozen 0
  have f1 := HLW.out.frozen 1
  have f2 := HLW.out.frozen 2
  have hgW : g < W.heap.size := Nat.lt_of_lt_of_le hlt HBW.out.size
  have hW2 := Lib.hid hW
  clear hW HB HL
  have fin : ∀ (i : Nat) (hi : i < L.length), S = L[i] → ∃ u, W.cell? ⟨g, 3 * i, none⟩ = some u ∧ W.cell? ⟨g, 3 * i + 1, none⟩ = some (.int .i64 S.percents) ∧ W.cell? ⟨g, 3 * i + 2, none⟩ = some (.bool S.number) ∧ Hid (W.ownsRow 0 95 7 u S.parts.length (partsC S.parts)) := fun i hi e => by
    obtain ⟨u, k0, k1, k2, ho⟩ := HT.out i hi W HBW.out
    subst e
    exact ⟨u, k0, k1, k2, Lib.hid ho⟩
  have HFin := Lib.hid fin
  clear HT fin
  have hL1 : 1 ≤ (L.length : Int) := by omega
  have hL4 : (L.length : Int) ≤ 4 := by omega
  by_cases hA : sg < 0 ∧ 2 ≤ L.length
  · obtain ⟨u, k0, k1, k2, HO⟩ := HFin.out 1 (by omega) (by rw [HS.out, if_pos hA]; simp [List.getD, List.getElem?_eq_getElem (show 1 < L.length by omega)])
    obtain ⟨hA1, hA2⟩ := hA
    obtain ⟨P, pc, nb⟩ := S
    dsimp only at k1 k2 HO
    obtain ⟨A, c, rfl⟩ := own_form HO.out
    clear HFin HS
    go_enter Tryd.func89, Tryd.ntmps89
    go_upto_region 1 with fail
    rw [hW2.out]
    go_wp2_with fail
    refine bodyPost_ret (v := .agg #[.slice A P.length c, .int .i64 pc, .bool nb]) (by simp [results, Tryd.results89, go_sem, q0, q1, q2]) rfl ?_
    exact ⟨_, rfl, own_put3 HO.out HLW.out _ _ _, ((HBW.out.setCell (p := ⟨_, 0, none⟩) (Nat.le_succ _) _).setCell (p := ⟨_, 1, none⟩) (Nat.le_succ _) _).setCell (p := ⟨_, 2, none⟩) (Nat.le_succ _) _⟩
  · by_cases hs0 : sg = 0
    · subst hs0
      by_cases h3 : 3 ≤ L.length
      · obtain ⟨u, k0, k1, k2, HO⟩ := HFin.out 2 (by omega) (by rw [HS.out, if_neg hA, if_pos ⟨rfl, h3⟩]; simp [List.getD, List.getElem?_eq_getElem (show 2 < L.length by omega)])
        clear hA
        obtain ⟨P, pc, nb⟩ := S
        dsimp only at k1 k2 HO
        obtain ⟨A, c, rfl⟩ := own_form HO.out
        clear HFin HS
        go_enter Tryd.func89, Tryd.ntmps89
        go_upto_region 1 with fail
        rw [hW2.out]
        go_wp2_with fail
        refine bodyPost_ret (v := .agg #[.slice A P.length c, .int .i64 pc, .bool nb]) (by simp [results, Tryd.results89, go_sem, q0, q1, q2]) rfl ?_
        exact ⟨_, rfl, own_put3 HO.out HLW.out _ _ _, ((HBW.out.setCell (p := ⟨_, 0, none⟩) (Nat.le_succ _) _).setCell (p := ⟨_, 1, none⟩) (Nat.le_succ _) _).setCell (p := ⟨_, 2, none⟩) (Nat.le_succ _) _⟩
      · obtain ⟨u, k0, k1, k2, HO⟩ := HFin.out 0 (by omega) (by rw [HS.out, if_neg hA, if_neg (fun h => h3 h.2)]; simp [List.getD, List.getElem?_eq_getElem (show 0 < L.length by omega)])
        clear hA
        obtain ⟨P, pc, nb⟩ := S
        dsimp only at k1 k2 HO
        obtain ⟨A, c, rfl⟩ := own_form HO.out
        clear HFin HS
        go_enter Tryd.func89, Tryd.ntmps89
        go_upto_region 1 with fail
        rw [hW2.out]
        go_wp2_with fail
        refine bodyPost_ret (v := .agg #[.slice A P.length c, .int .i64 pc, .bool nb]) (by simp [results, Tryd.results89, go_sem, q0, q1, q2]) rfl ?_
        exact ⟨_, rfl, own_put3 HO.out HLW.out _ _ _, ((HBW.out.setCell (p := ⟨_, 0, none⟩) (Nat.le_succ _) _).setCell (p := ⟨_, 1, none⟩) (Nat.le_succ _) _).setCell (p := ⟨_, 2, none⟩) (Nat.le_succ _) _⟩
    · have bs : (sg == 0) = false := by rw [beq_eq_false_iff_ne]; exact hs0
      by_cases hneg : sg < 0
      · have h2 : ¬ 2 ≤ L.length := fun h => hA ⟨hneg, h⟩
        obtain ⟨u, k0, k1, k2, HO⟩ := HFin.out 0 (by omega) (by rw [HS.out, if_neg hA, if_neg (fun h => hs0 h.1)]; simp [List.getD, List.getElem?_eq_getElem (show 0 < L.length by omega)])
        clear hA hs0
        obtain ⟨P, pc, nb⟩ := S
        dsimp only at k1 k2 HO
        obtain ⟨A, c, rfl⟩ := own_form HO.out
        clear HFin HS
        go_enter Tryd.func89, Tryd.ntmps89
        go_upto_region 1 with fail
        rw [hW2.out]
        go_wp2_with fail
        refine bodyPost_ret (v := .agg #[.slice A P.length c, .int .i64 pc, .bool nb]) (by simp [results, Tryd.results89, go_sem, q0, q1, q2]) rfl ?_
        exact ⟨_, rfl, own_put3 HO.out HLW.out _ _ _, ((HBW.out.setCell (p := ⟨_, 0, none⟩) (Nat.le_succ _) _).setCell (p := ⟨_, 1, none⟩) (Nat.le_succ _) _).setCell (p := ⟨_, 2, none⟩) (Nat.le_succ _) _⟩
      · obtain ⟨u, k0, k1, k2, HO⟩ := HFin.out 0 (by omega) (by rw [HS.out, if_neg hA, if_neg (fun h => hs0 h.1)]; simp [List.getD, List.getElem?_eq_getElem (show 0 < L.length by omega)])
        clear hA hs0
        obtain ⟨P, pc, nb⟩ := S
        dsimp only at k1 k2 HO
        obtain ⟨A, c, rfl⟩ := own_form HO.out
        clear HFin HS
        go_enter Tryd.func89, Tryd.ntmps89
        go_upto_region 1 with fail
        rw [hW2.out]
        go_wp2_with fail
        refine bodyPost_ret (v := .agg #[.slice A P.length c, .int .i64 pc, .bool nb]) (by simp [results, Tryd.results89, go_sem, q0, q1, q2]) rfl ?_
        exact ⟨_, rfl, own_put3 HO.out HLW.out _ _ _, ((HBW.out.setCell (p := ⟨_, 0, none⟩) (Nat.le_succ _) _).setCell (p := ⟨_, 1, none⟩) (Nat.le_succ _) _).setCell (p := ⟨_, 2, none⟩) (Nat.le_succ _) _⟩
end Go.Proofs.YteccjdclkcipbaaDoor
