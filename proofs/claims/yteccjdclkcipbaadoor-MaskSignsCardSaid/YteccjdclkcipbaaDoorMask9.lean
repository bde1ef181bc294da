/-
  mask.Format.section, number: what they return.
-/
import Derived.Test.YteccjdclkcipbaaDoorMask6
import Derived.Test.YteccjdclkcipbaaDoorPlMa
import Derived.Test.YteccjdclkcipbaaDoorNum13
import Derived.Test.YteccjdclkcipbaaDoorBuild2
namespace Go.Proofs.YteccjdclkcipbaaDoor
open Go.RowKit

theorem secsC_at : ∀ (vs : List Value) (L : List MS) (i : Nat), vs.length = L.length → (hi : i < L.length) → ∃ u, vs[i]? = some u ∧ (secsC vs L)[3 * i]? = some u ∧ (secsC vs L)[3 * i + 1]? = some (.int .i64 L[i].percents) ∧ (secsC vs L)[3 * i + 2]? = some (.bool L[i].number)
  | [], [], _, _, hi => by simp at hi
  | v :: vs, s :: L, 0, _, _ => ⟨v, rfl, rfl, rfl, rfl⟩
  | v :: vs, s :: L, i + 1, h, hi => by
    obtain ⟨u, h1, h2, h3, h4⟩ := secsC_at vs L i (by simpa using h) (by simpa using hi)
    refine ⟨u, by simpa using h1, ?_, ?_, ?_⟩
    · rw [show 3 * (i + 1) = 3 * i + 1 + 1 + 1 by omega]; simpa [secsC, secC] using h2
    · rw [show 3 * (i + 1) + 1 = 3 * i + 1 + 1 + 1 + 1 by omega]; simpa [secsC, secC] using h3
    · rw [show 3 * (i + 1) + 2 = 3 * i + 2 + 1 + 1 + 1 by omega]; simpa [secsC, secC] using h4
  | [], _ :: _, _, h, _ => by simp at h
  | _ :: _, [], _, h, _ => by simp at h
theorem FmtAt.form {w : World} {v : Value} {L : List MS} (h : FmtAt w v L) (hL : 0 < L.length) : ∃ g cap, v = .slice (some ⟨g, 0, none⟩) L.length cap ∧ g < w.heap.size := by
  obtain ⟨vs, -, h2, -⟩ := h
  obtain ⟨g, cap, e, -, hlt⟩ := h2.form hL
  exact ⟨g, cap, e, hlt⟩
theorem FmtAt.sec {w : World} {g n cap : Nat} {L : List MS} (h : FmtAt w (.slice (some ⟨g, 0, none⟩) n cap) L) (hn : L.length = n) (i : Nat) (hi : i < L.length) : ∃ u, w.cell? ⟨g, 3 * i, none⟩ = some u ∧ w.cell? ⟨g, 3 * i + 1, none⟩ = some (.int .i64 L[i].percents) ∧ w.cell? ⟨g, 3 * i + 2, none⟩ = some (.bool L[i].number) ∧ w.ownsRow 0 95 7 u L[i].parts.length (partsC L[i].parts) := by
  subst hn
  obtain ⟨vs, h1, h2, h3⟩ := h
  obtain ⟨u, k1, k2, k3, k4⟩ := secsC_at vs L i h1 hi
  refine ⟨u, ?_, ?_, ?_, h3 i u L[i] k1 (List.getElem?_eq_getElem hi)⟩
  · rw [h2.cellAt _ (by omega)]; exact k2
  · rw [h2.cellAt _ (by omega)]; exact k3
  · rw [h2.cellAt _ (by omega)]; exact k4
theorem own_put3 {w : World} {u : Value} {n : Nat} {xs : List Value} {b : Nat} {cs : Array Value} (h : w.ownsRow 0 95 7 u n xs) (hl : Lies w b 93 cs) (x0 x1 x2 : Value) : (((w.setCell ⟨b, 0, none⟩ x0).setCell ⟨b, 1, none⟩ x1).setCell ⟨b, 2, none⟩ x2).ownsRow 0 95 7 u n xs := by
  have h0 := ownsRow_setCell_other h (a := ⟨b, 0, none⟩) (lies_apart hl h (by decide)).symm x0
  have l0 := hl.put 0 x0
  have h1 := ownsRow_setCell_other h0 (a := ⟨b, 1, none⟩) (lies_apart l0 h0 (by decide)).symm x1
  have l1 := l0.put 1 x1
  exact ownsRow_setCell_other h1 (a := ⟨b, 2, none⟩) (lies_apart l1 h1 (by decide)).symm x2
theorem own_form {w : World} {base : Nat} {e : TypeId} {size : Nat} {v : Value} {n : Nat} {xs : List Value} (h : w.ownsRow base e size v n xs) : ∃ A c, v = .slice A n c := by
  rcases h.2 with ⟨rfl, rfl⟩ | ⟨g, cap, cur, rfl, _⟩
  · exact ⟨none, 0, rfl⟩
  · exact ⟨_, cap, rfl⟩
def SecPost (w : World) (s : MS) (e : Ending) (w' : World) : Prop := ∃ u, e = .returned (.agg #[u, .int .i64 s.percents, .bool s.number]) ∧ w'.ownsRow 0 95 7 u s.parts.length (partsC s.parts) ∧ Below w.heap.size w w'
set_option maxRecDepth 100000 in
set_option maxHeartbeats 3200000 in
theorem section_any (tx : Bs) (v : Value) (L : List MS) (sg : Int) (w : World) (hF : FmtAt w v L) (h1 : 1 ≤ L.length) (h4 : L.length ≤ 4) :
    Calls Tryd.prog 89 #[.agg #[.string ⟨tx.toArray⟩, v], .int .i64 sg] w (SecPost w (secOf L sg)) := by
  obtain ⟨g, cap, rfl, hlt⟩ := hF.form h1
  have HT : Hid (∀ (i : Nat) (hi : i < L.length) W, Below w.heap.size w W → ∃ u, W.cell? ⟨g, 3 * i, none⟩ = some u ∧ W.cell? ⟨g, 3 * i + 1, none⟩ = some (.int .i64 L[i].percents) ∧ W.cell? ⟨g, 3 * i + 2, none⟩ = some (.bool L[i].number) ∧ W.ownsRow 0 95 7 u L[i].parts.length (partsC L[i].parts)) := Lib.hid (fun i hi W hb => (hF.next hb).sec rfl i hi)
  have hB : Below w.heap.size w ((w.alloc (.cells #[.string ⟨tx.toArray⟩, .slice (some ⟨g, 0, none⟩) L.length cap] 43)).alloc (.cells #[.slice none 0 0, .int .i64 0, .bool false] 93)) := ((Below.refl _ w).alloc (Nat.le_refl _) _).alloc (by simp) _
  have HB := Lib.hid hB
  have HL : Hid (Lies ((w.alloc (.cells #[.string ⟨tx.toArray⟩, .slice (some ⟨g, 0, none⟩) L.length cap] 43)).alloc (.cells #[.slice none 0 0, .int .i64 0, .bool false] 93)) (w.heap.size + 1) 93 #[.slice none 0 0, .int .i64 0, .bool false]) := Lib.hid (by have := Lies.new (w.alloc (.cells #[.string ⟨tx.toArray⟩, .slice (some ⟨g, 0, none⟩) L.length cap] 43)) 93 #[.slice none 0 0, .int .i64 0, .bool false]; simpa using this)
  have b0 : ((L.length : Int) == 0) = false := by rw [beq_eq_false_iff_ne]; omega
  have HS : Hid (secOf L sg = if sg < 0 ∧ 2 ≤ L.length then L.getD 1 ms0 else if sg = 0 ∧ 3 ≤ L.length then L.getD 2 ms0 else L.getD 0 ms0) := Lib.hid (by unfold secOf; rw [if_neg (by omega)])
  generalize hsec : secOf L sg = S at *
  clear hsec hF hB
  obtain ⟨W, hW⟩ : ∃ W, (w.alloc (.cells #[.string ⟨tx.toArray⟩, .slice (some ⟨g, 0, none⟩) L.length cap] 43)).alloc (.cells #[.slice none 0 0, .int .i64 0, .bool false] 93) = W := ⟨_, rfl⟩
  have HBW : Hid (Below w.heap.size w W) := Lib.hid (by rw [← hW]; exact HB.out)
  have HLW : Hid (Lies W (w.heap.size + 1) 93 #[.slice none 0 0, .int .i64 0, .bool false]) := Lib.hid (by rw [← hW]; exact HL.out)
  have bx1 : W.cell? ⟨w.heap.size, 1, none⟩ = some (.slice (some ⟨g, 0, none⟩) L.length cap) := by rw [← hW]; simp
  have q0 := HLW.out.cell 0
  have q1 := HLW.out.cell 1
  have q2 := HLW.out.cell 2
  simp only [List.getElem?_toArray, List.getElem?_cons_zero, List.getElem?_cons_succ] at q0 q1 q2
  have f0 := HLW.out.frozen 0
  have f1 := HLW.out.frozen 1
  have f2 := HLW.out.frozen 2
  have hgW : g < W.heap.size := Nat.lt_of_lt_of_le hlt HBW.out.size
  have hW2 := Lib.hid hW
  clear hW HB HL
  have fin : ∀ (i : Nat) (hi : i < L.length), S = L[i] → ∃ u, W.cell? ⟨g, 3 * i, none⟩ = some u ∧ W.cell? ⟨g, 3 * i + 1, none⟩ = some (.int .i64 S.percents) ∧ W.cell? ⟨g, 3 * i + 2, none⟩ = some (.bool S.number) ∧ Hid (W.ownsRow 0 95 7 u S.parts.length (partsC S.parts)) := fun i hi e => by
    obtain ⟨u, k0, k1, k2, ho⟩ := HT.out i hi W HBW.out
    subst e
    exact ⟨u, k0, k1, k2, Lib.hid ho⟩
  have HFin := Lib.hid fin
  clear HT fin
  have hL1 : 1 ≤ (L.length : Int) := by omega
  have hL4 : (L.length : Int) ≤ 4 := by omega
  by_cases hA : sg < 0 ∧ 2 ≤ L.length
  · obtain ⟨u, k0, k1, k2, HO⟩ := HFin.out 1 (by omega) (by rw [HS.out, if_pos hA]; simp [List.getD, List.getElem?_eq_getElem (show 1 < L.length by omega)])
    obtain ⟨hA1, hA2⟩ := hA
    obtain ⟨P, pc, nb⟩ := S
    dsimp only at k1 k2 HO
    obtain ⟨A, c, rfl⟩ := own_form HO.out
    clear HFin HS
    go_enter Tryd.func89, Tryd.ntmps89
    go_upto_region 1 with fail
    rw [hW2.out]
    go_wp2_with fail
    refine bodyPost_ret (v := .agg #[.slice A P.length c, .int .i64 pc, .bool nb]) (by simp [results, Tryd.results89, go_sem, q0, q1, q2]) rfl ?_
    exact ⟨_, rfl, own_put3 HO.out HLW.out _ _ _, ((HBW.out.setCell (p := ⟨_, 0, none⟩) (Nat.le_succ _) _).setCell (p := ⟨_, 1, none⟩) (Nat.le_succ _) _).setCell (p := ⟨_, 2, none⟩) (Nat.le_succ _) _⟩
  · by_cases hs0 : sg = 0
    · subst hs0
      by_cases h3 : 3 ≤ L.length
      · obtain ⟨u, k0, k1, k2, HO⟩ := HFin.out 2 (by omega) (by rw [HS.out, if_neg hA, if_pos ⟨rfl, h3⟩]; simp [List.getD, List.getElem?_eq_getElem (show 2 < L.length by omega)])
        clear hA
        obtain ⟨P, pc, nb⟩ := S
        dsimp only at k1 k2 HO
        obtain ⟨A, c, rfl⟩ := own_form HO.out
        clear HFin HS
        go_enter Tryd.func89, Tryd.ntmps89
        go_upto_region 1 with fail
        rw [hW2.out]
        go_wp2_with fail
        refine bodyPost_ret (v := .agg #[.slice A P.length c, .int .i64 pc, .bool nb]) (by simp [results, Tryd.results89, go_sem, q0, q1, q2]) rfl ?_
        exact ⟨_, rfl, own_put3 HO.out HLW.out _ _ _, ((HBW.out.setCell (p := ⟨_, 0, none⟩) (Nat.le_succ _) _).setCell (p := ⟨_, 1, none⟩) (Nat.le_succ _) _).setCell (p := ⟨_, 2, none⟩) (Nat.le_succ _) _⟩
      · obtain ⟨u, k0, k1, k2, HO⟩ := HFin.out 0 (by omega) (by rw [HS.out, if_neg hA, if_neg (fun h => h3 h.2)]; simp [List.getD, List.getElem?_eq_getElem (show 0 < L.length by omega)])
        clear hA
        obtain ⟨P, pc, nb⟩ := S
        dsimp only at k1 k2 HO
        obtain ⟨A, c, rfl⟩ := own_form HO.out
        clear HFin HS
        go_enter Tryd.func89, Tryd.ntmps89
        go_upto_region 1 with fail
        rw [hW2.out]
        go_wp2_with fail
        refine bodyPost_ret (v := .agg #[.slice A P.length c, .int .i64 pc, .bool nb]) (by simp [results, Tryd.results89, go_sem, q0, q1, q2]) rfl ?_
        exact ⟨_, rfl, own_put3 HO.out HLW.out _ _ _, ((HBW.out.setCell (p := ⟨_, 0, none⟩) (Nat.le_succ _) _).setCell (p := ⟨_, 1, none⟩) (Nat.le_succ _) _).setCell (p := ⟨_, 2, none⟩) (Nat.le_succ _) _⟩
    · have bs : (sg == 0) = false := by rw [beq_eq_false_iff_ne]; exact hs0
      by_cases hneg : sg < 0
      · have h2 : ¬ 2 ≤ L.length := fun h => hA ⟨hneg, h⟩
        obtain ⟨u, k0, k1, k2, HO⟩ := HFin.out 0 (by omega) (by rw [HS.out, if_neg hA, if_neg (fun h => hs0 h.1)]; simp [List.getD, List.getElem?_eq_getElem (show 0 < L.length by omega)])
        clear hA hs0
        obtain ⟨P, pc, nb⟩ := S
        dsimp only at k1 k2 HO
        obtain ⟨A, c, rfl⟩ := own_form HO.out
        clear HFin HS
        go_enter Tryd.func89, Tryd.ntmps89
        go_upto_region 1 with fail
        rw [hW2.out]
        go_wp2_with fail
        refine bodyPost_ret (v := .agg #[.slice A P.length c, .int .i64 pc, .bool nb]) (by simp [results, Tryd.results89, go_sem, q0, q1, q2]) rfl ?_
        exact ⟨_, rfl, own_put3 HO.out HLW.out _ _ _, ((HBW.out.setCell (p := ⟨_, 0, none⟩) (Nat.le_succ _) _).setCell (p := ⟨_, 1, none⟩) (Nat.le_succ _) _).setCell (p := ⟨_, 2, none⟩) (Nat.le_succ _) _⟩
      · obtain ⟨u, k0, k1, k2, HO⟩ := HFin.out 0 (by omega) (by rw [HS.out, if_neg hA, if_neg (fun h => hs0 h.1)]; simp [List.getD, List.getElem?_eq_getElem (show 0 < L.length by omega)])
        clear hA hs0
        obtain ⟨P, pc, nb⟩ := S
        dsimp only at k1 k2 HO
        obtain ⟨A, c, rfl⟩ := own_form HO.out
        clear HFin HS
        go_enter Tryd.func89, Tryd.ntmps89
        go_upto_region 1 with fail
        rw [hW2.out]
        go_wp2_with fail
        refine bodyPost_ret (v := .agg #[.slice A P.length c, .int .i64 pc, .bool nb]) (by simp [results, Tryd.results89, go_sem, q0, q1, q2]) rfl ?_
        exact ⟨_, rfl, own_put3 HO.out HLW.out _ _ _, ((HBW.out.setCell (p := ⟨_, 0, none⟩) (Nat.le_succ _) _).setCell (p := ⟨_, 1, none⟩) (Nat.le_succ _) _).setCell (p := ⟨_, 2, none⟩) (Nat.le_succ _) _⟩
structure NSt (w : World) (tx : Bs) (v : Value) (A : Option Addr) (c : Nat) (S : MS) (b : Nat) (M E : Int) (wr : World) : Prop where
  fmt : Lies wr w.heap.size 43 #[.string ⟨tx.toArray⟩, v]
  num : Lies wr (w.heap.size + 1) 23 #[.int .i64 M, .int .i64 E]
  sec : Lies wr b 93 #[.slice A S.parts.length c, .int .i64 S.percents, .bool S.number]
  parts : wr.ownsRow 0 95 7 (.slice A S.parts.length c) S.parts.length (partsC S.parts)
  bel : Below w.heap.size w wr
theorem NSt.next {w : World} {tx : Bs} {v : Value} {A : Option Addr} {c : Nat} {S : MS} {b : Nat} {M E : Int} {wr w' : World} (h : NSt w tx v A c S b M E wr) (hb : Below wr.heap.size wr w') : NSt w tx v A c S b M E w' :=
  ⟨Lies.below h.fmt hb, Lies.below h.num hb, Lies.below h.sec hb, own_next hb h.parts, h.bel.trans (hb.mono h.bel.size)⟩
theorem NSt.put {w : World} {tx : Bs} {v : Value} {A : Option Addr} {c : Nat} {S : MS} {b : Nat} {M E : Int} {wr : World} (h : NSt w tx v A c S b M E wr) (M' E' : Int) : NSt w tx v A c S b M' E' ((wr.setCell ⟨w.heap.size + 1, 0, none⟩ (.int .i64 M')).setCell ⟨w.heap.size + 1, 1, none⟩ (.int .i64 E')) := by
  have hbn : b ≠ w.heap.size + 1 := fun e => by
    have h1 := h.sec
    have h2 := h.num
    unfold Lies at h1 h2
    rw [e, h2] at h1
    injection h1 with h1
    injection h1 with _ h1 _
    exact absurd h1 (by decide)
  have off : ∀ {g : Nat} {t : TypeId} {cs : Array Value} {W : World} (k : Nat) (u : Value), Lies W g t cs → g ≠ w.heap.size + 1 → Lies (W.setCell ⟨w.heap.size + 1, k, none⟩ u) g t cs := fun k u hl hg => (Below.heap_setCell _ ⟨w.heap.size + 1, k, none⟩ u _ hg).trans hl
  refine ⟨off 1 _ (off 0 _ h.fmt (by omega)) (by omega), (h.num.put 0 _).put 1 _, off 1 _ (off 0 _ h.sec hbn) hbn, ?_, (h.bel.setCell (p := ⟨_, 0, none⟩) (Nat.le_succ _) _).setCell (p := ⟨_, 1, none⟩) (Nat.le_succ _) _⟩
  have h0 := ownsRow_setCell_other h.parts (a := ⟨w.heap.size + 1, 0, none⟩) (lies_apart h.num h.parts (by decide)).symm (.int .i64 M')
  exact ownsRow_setCell_other h0 (a := ⟨w.heap.size + 1, 1, none⟩) (lies_apart (h.num.put 0 (.int .i64 M')) h0 (by decide)).symm (.int .i64 E')
theorem partsC_at : ∀ (P : List MP) (j k : Nat) (hj : j < P.length), k < 7 → (partsC P)[j * 7 + k]? = (partC P[j])[k]?
  | [], _, _, hj, _ => by simp at hj
  | p :: P, 0, k, _, hk => by
    simp only [Nat.zero_mul, Nat.zero_add, partsC, List.flatMap_cons, List.getElem_cons_zero]
    rw [List.getElem?_append_left (by simp [partC]; omega)]
    simp
  | p :: P, j + 1, k, hj, hk => by
    have ih := partsC_at P j k (by simpa using hj) hk
    simp only [partsC, List.flatMap_cons, List.getElem_cons_succ] at ih ⊢
    rw [List.getElem?_append_right (by simp [partC]; omega)]
    rw [show (j + 1) * 7 + k - (partC p).toList.length = j * 7 + k by simp [partC]; omega]
    exact ih
theorem any_any (t : Bs) (w : World) (ht : Ascii t) (hl : t.length ≤ 1000000) :
    Calls Tryd.prog 93 #[.string ⟨t.toArray⟩, .string ⟨#[49, 50, 51, 52, 53, 54, 55, 56, 57]⟩] w fun e w' => e = .returned (.bool (oneNine t)) ∧ Below w.heap.size w w' := by
  refine (Tryd.strings_ContainsAny_laid ⟨t.toArray⟩ ⟨#[49, 50, 51, 52, 53, 54, 55, 56, 57]⟩ w (by simp [ByteArray.size]; omega) (by decide) ?_ ?_).mono ?_
  · intro j b hb
    exact ht b (List.mem_of_getElem? hb)
  · intro j b hb
    have : b ∈ nines := List.mem_of_getElem? hb
    simp [nines] at this
    rcases this with rfl | rfl | rfl | rfl | rfl | rfl | rfl | rfl | rfl <;> decide
  · rintro e w' ⟨rfl, hb⟩
    exact ⟨ret_bool (any_nines t), hb⟩
set_option maxRecDepth 100000 in
set_option maxHeartbeats 12800000 in
theorem mnumber_any (tx : Bs) (v : Value) (L : List MS) (m e : Int) (w : World) (hF : FmtAt w v L) (h1 : 1 ≤ L.length) (h4 : L.length ≤ 4) (hT : Tab w) (hP : PowTab w) (hM : MaxVar w) (hR : pRight m e = true)
    (hok : ∀ s ∈ L, s.parts.length ≤ 1000 ∧ s.percents ≤ 1000 ∧ ∀ p ∈ s.parts, p.ok 255) :
    Calls Tryd.prog 59 #[.agg #[.string ⟨tx.toArray⟩, v], numV m e] w fun x w' => x = .returned (.string ⟨(mNumber L m e).toArray⟩) ∧ Below w.heap.size w w' := by
  obtain ⟨g, cap, rfl, hlt⟩ := hF.form h1
  obtain ⟨a1, a2⟩ := rb hR
  have hS : (secOf L m).parts.length ≤ 1000 ∧ (secOf L m).percents ≤ 1000 ∧ ∀ p ∈ (secOf L m).parts, p.ok 255 := by
    unfold secOf
    rw [if_neg (by omega)]
    have hg : ∀ i, i < L.length → L.getD i ms0 ∈ L := fun i hi => by rw [List.getD, List.getElem?_eq_getElem hi]; exact List.getElem_mem hi
    split
    · exact hok _ (hg 1 (by omega))
    · split
      · exact hok _ (hg 2 (by omega))
      · exact hok _ (hg 0 (by omega))
  have CC := Lib.hid (fun W => cmp_right m e 0 0 W (by omega) (by omega) (by decide) (by decide) hR (by decide))
  rw [pCmp_zero m e hR] at CC
  have CS := Lib.hid (fun W (h : FmtAt W (.slice (some ⟨g, 0, none⟩) L.length cap) L) => section_any tx _ L (sgn m) W h h1 h4)
  rw [secOf_sgn] at CS
  have CN := Lib.hid (fun W => neg_right m e W (by omega) (by omega) hR)
  have HRa := Lib.hid (pRight_abs m e hR)
  have HD : Hid (mNumber L m e = match hundred (secOf L m).percents (m.natAbs, e) with | none => numText | some x => if m < 0 ∧ L.length < 2 ∧ ((secOf L m).parts.any fun p => partSome p x.1 x.2) = true then 45 :: ((secOf L m).parts.flatMap fun p => partText p x.1 x.2) else ((secOf L m).parts.flatMap fun p => partText p x.1 x.2)) := Lib.hid rfl
  obtain ⟨out, hout⟩ : ∃ out, mNumber L m e = out := ⟨_, rfl⟩
  rw [hout] at HD ⊢
  clear hout
  generalize secOf L m = S at *
  have HS := Lib.hid hS
  have HF := Lib.hid hF
  have HT := Lib.hid hT
  have HP := Lib.hid hP
  have HM := Lib.hid hM
  clear hok hS hF hT hP hM hR
  have hbA : Below w.heap.size w ((w.alloc (.cells #[.string ⟨tx.toArray⟩, .slice (some ⟨g, 0, none⟩) L.length cap] 43)).alloc (.cells #[.int .i64 m, .int .i64 e] 23)) := ((Below.refl _ w).alloc (Nat.le_refl _) _).alloc (by simp) _
  have HBA := Lib.hid hbA
  have HL0 : Hid (Lies ((w.alloc (.cells #[.string ⟨tx.toArray⟩, .slice (some ⟨g, 0, none⟩) L.length cap] 43)).alloc (.cells #[.int .i64 m, .int .i64 e] 23)) w.heap.size 43 #[.string ⟨tx.toArray⟩, .slice (some ⟨g, 0, none⟩) L.length cap]) := Lib.hid ((Lies.new w _ _).alloc _)
  have HL1 : Hid (Lies ((w.alloc (.cells #[.string ⟨tx.toArray⟩, .slice (some ⟨g, 0, none⟩) L.length cap] 43)).alloc (.cells #[.int .i64 m, .int .i64 e] 23)) (w.heap.size + 1) 23 #[.int .i64 m, .int .i64 e]) := Lib.hid (by have := Lies.new (w.alloc (.cells #[.string ⟨tx.toArray⟩, .slice (some ⟨g, 0, none⟩) L.length cap] 43)) 23 #[.int .i64 m, .int .i64 e]; simpa using this)
  clear hbA
  go_enter Tryd.func59, Tryd.ntmps59
  go_wp2_with fail
  refine (CC.out _).mono ?_
  rintro x w1 ⟨rfl, hb⟩
  have HB1 : Hid (Below w.heap.size w w1) := Lib.hid (HBA.out.trans (hb.mono HBA.out.size))
  have HLf := Lib.hid (Lies.below HL0.out hb)
  have HLn := Lib.hid (Lies.below HL1.out hb)
  clear hb HBA HL0 HL1 CC
  have x0 := HLf.out.cell 0
  have x1 := HLf.out.cell 1
  simp only [List.getElem?_toArray, List.getElem?_cons_zero, List.getElem?_cons_succ] at x0 x1
  go_wp2_with fail
  refine (CS.out _ (HF.out.next HB1.out)).mono ?_
  rintro x w2 ⟨u, rfl, hown, hb⟩
  obtain ⟨A, c, rfl⟩ := own_form hown
  have HB2 : Hid (Below w.heap.size w w2) := Lib.hid (HB1.out.trans (hb.mono HB1.out.size))
  have HLf2 := Lib.hid (Lies.below HLf.out hb)
  have HLn2 := Lib.hid (Lies.below HLn.out hb)
  have HO2 := Lib.hid hown
  clear hb hown HB1 HLf HLn CS x0 x1
  go_upto_region 3 with fail
  have hbn : Below w2.heap.size w2 (w2.alloc (.cells #[.slice A S.parts.length c, .int .i64 S.percents, .bool S.number] 93)) := (Below.refl _ _).alloc (Nat.le_refl _) _
  obtain ⟨W, hW⟩ : ∃ W, w2.alloc (.cells #[.slice A S.parts.length c, .int .i64 S.percents, .bool S.number] 93) = W := ⟨_, rfl⟩
  have HN0 : Hid (NSt w tx (.slice (some ⟨g, 0, none⟩) L.length cap) A c S w2.heap.size m e W) := Lib.hid (by
    rw [← hW]
    exact ⟨Lies.below HLf2.out hbn, Lies.below HLn2.out hbn, Lies.new w2 _ _, own_next hbn HO2.out, HB2.out.trans (hbn.mono HB2.out.size)⟩)
  rw [hW]
  clear hbn hW HB2 HLf2 HLn2 HO2
  generalize w2.heap.size = b at *
  go_upto_if 21 with fail
  go_cut [22] (fun _ wx => Hid (NSt w tx (.slice (some ⟨g, 0, none⟩) L.length cap) A c S b (m.natAbs : Int) e wx))
  case first =>
    have x0 := HN0.out.num.cell 0
    have x1 := HN0.out.num.cell 1
    simp only [List.getElem?_toArray, List.getElem?_cons_zero, List.getElem?_cons_succ] at x0 x1
    by_cases hneg : m < 0
    · have hs : sgn m < 0 := by rw [show sgn m = -1 from if_pos hneg]; decide
      have hna : Hid (-m = (m.natAbs : Int)) := Lib.hid (by omega)
      go_wp2_with fail
      refine (CN.out _).mono ?_
      rintro x w4 ⟨rfl, hb⟩
      have HN1 := Lib.hid (HN0.out.next hb)
      have HN2 := Lib.hid (HN1.out.put (m.natAbs : Int) e)
      have y0 := HN1.out.num.cell 0
      have y1 := HN1.out.num.cell 1
      simp only [List.getElem?_toArray, List.getElem?_cons_zero, List.getElem?_cons_succ] at y0 y1
      have z0 := HN1.out.num.frozen 0
      have z1 := HN1.out.num.frozen 1
      rw [hna.out]
      clear hb HN0 HN1 CN x0 x1
      go_wp2_with fail
      go_meet
      exact HN2
    · have hs : Hid (¬ sgn m < 0) := Lib.hid (by rcases sgn_cases m with ⟨_, _⟩ | ⟨_, h⟩ | ⟨_, h⟩ <;> omega)
      have hs2 : 0 ≤ sgn m := by have := hs.out; omega
      have hna : Hid (m = (m.natAbs : Int)) := Lib.hid (by omega)
      have HN1 : Hid (NSt w tx (.slice (some ⟨g, 0, none⟩) L.length cap) A c S b (m.natAbs : Int) e W) := Lib.hid (by rw [← hna.out]; exact HN0.out)
      clear HN0 hna CN
      go_wp2_with fail
      go_meet
      exact HN1
  case rest =>
    clear HN0 CN
    have hsc := hcut.out.sec.cell 1
    simp only [List.getElem?_toArray, List.getElem?_cons_zero, List.getElem?_cons_succ] at hsc
    have hpcs := HS.out.2.1
    go_wp2_with fail
    have HU0 : Hid (hundred (S.percents - 0) ((m.natAbs : Int), e) = hundred S.percents ((m.natAbs : Int), e)) := Lib.hid rfl
    obtain ⟨pc, hpc⟩ : ∃ pc, S.percents = pc := ⟨_, rfl⟩
    have HPC := Lib.hid hpc
    rw [hpc] at HU0 hpcs ⊢
    clear hpc hsc
    go_loopw [7, 8, 26] (fun _ _ v wr => ∃ (i : Nat) (M E : Int), v = .int .i64 (i : Int) ∧ i ≤ pc ∧ Hid (hundred (pc - i) (M, E) = hundred pc ((m.natAbs : Int), e)) ∧ Hid (pRight M E = true ∧ 0 ≤ M) ∧ Hid (NSt w tx (.slice (some ⟨g, 0, none⟩) L.length cap) A c S b M E wr)) (fun _ _ v _ => pc - (intOf v).toNat)
    case atStart => exact ⟨0, (m.natAbs : Int), e, rfl, Nat.zero_le _, HU0, Lib.hid ⟨HRa.out, by omega⟩, hcut⟩
    case round =>
      obtain ⟨i, M, E, rfl, hi, hu, hr, hN⟩ := hrel
      clear HU0 hcut
      have hrM := hr.out.1
      by_cases hlt2 : i < pc
      · have CM := Lib.hid (fun W h => mul_hundred M E W h hrM)
        have CFt := Lib.hid (fun W (h : Tab W) => faultText_any 5 W h)
        have x0 := hN.out.num.cell 0
        have x1 := hN.out.num.cell 1
        simp only [List.getElem?_toArray, List.getElem?_cons_zero, List.getElem?_cons_succ] at x0 x1
        clear hrM
        go_wp2_with fail
        refine (CM.out _ (HP.out.next hN.out.bel)).mono ?_
        rintro x w5 ⟨rfl, hb⟩
        have hN2 := Lib.hid (hN.out.next hb)
        have hmo : mulOut M E = numOut (pNear (decide (M < 0)) M.natAbs (E + 2)) := rfl
        have hst := Lib.hid (fun y => hundred_some pc i (M, E) y hlt2)
        have hno := Lib.hid (hundred_none pc i (M, E) hlt2)
        clear hb hN x0 x1 CM
        cases hp : pNear (decide (M < 0)) M.natAbs (E + 2) with
        | none =>
          have hres : Hid (out = numText) := Lib.hid (by rw [HD.out, HPC.out, ← hu.out, hno.out hp])
          rw [hmo, hp]
          clear hmo hp hst hno hu
          unfold numOut
          go_wp2_with fail
          refine (CFt.out _ (HT.out.next (hN2.out.bel.alloc hN2.out.bel.size _))).mono ?_
          rintro x w6 ⟨rfl, rfl⟩
          go_wp2_with fail
          go_ret
          exact ⟨by rw [hres.out]; rfl, hN2.out.bel.alloc hN2.out.bel.size _⟩
        | some y =>
          obtain ⟨M2, E2⟩ := y
          have hu2 := Lib.hid ((hst.out (M2, E2) hp).symm.trans hu.out)
          have hr2 : Hid (pRight M2 E2 = true ∧ 0 ≤ M2) := Lib.hid (by
            have h := pNear_right hp
            refine ⟨h.1, h.2 (decide_eq_false (by have := hr.out.2; omega))⟩)
          rw [hmo, hp]
          clear hmo hp hst hno hu
          unfold numOut
          have y0 := hN2.out.num.cell 0
          have y1 := hN2.out.num.cell 1
          simp only [List.getElem?_toArray, List.getElem?_cons_zero, List.getElem?_cons_succ] at y0 y1
          have z0 := hN2.out.num.frozen 0
          have z1 := hN2.out.num.frozen 1
          have ylt := hN2.out.num.lt
          have hN3' := hN2.out.put M2 E2
          have hN3 := Lib.hid (hN3'.next (w' := ((w5.setCell ⟨w.heap.size + 1, 0, none⟩ (.int .i64 M2)).setCell ⟨w.heap.size + 1, 1, none⟩ (.int .i64 E2)).alloc (.cells #[.int .i64 M2, .int .i64 E2] 23)) ((Below.refl _ _).alloc (Nat.le_refl _) _))
          clear hN3'
          clear hN2 hr
          go_wp2_with fail
          go_roundw
          case rel => exact ⟨i + 1, M2, E2, by go_num, by omega, hu2, hr2, hN3⟩
          case measure => simp [intOf]; omega
      · have hie : i = pc := by omega
        subst hie
        have hu2 : Hid (hundred i ((m.natAbs : Int), e) = some (M, E)) := Lib.hid (by rw [← hu.out, Nat.sub_self]; rfl)
        have HD2 : Hid (out = if m < 0 ∧ L.length < 2 ∧ (S.parts.any fun p => partSome p M E) = true then 45 :: (S.parts.flatMap fun p => partText p M E) else (S.parts.flatMap fun p => partText p M E)) := Lib.hid (by rw [HD.out, HPC.out, hu2.out])
        clear HD hu hu2 HPC HRa hi hlt2
        have s0 := hN.out.sec.cell 0
        simp only [List.getElem?_toArray, List.getElem?_cons_zero] at s0
        have slt := hN.out.sec.lt
        obtain ⟨w7, rfl⟩ : ∃ w7, w7 = wr := ⟨_, rfl⟩
        have HBu0 : Hid (Lib.IsBuilder 102 5 w7.heap.size w7.heap.size (Lib.byteCells []) (w7.alloc (.cells #[.pointer none, .slice none 0 0] 102))) := Lib.hid (Lib.fresh_isBuilder _ _ w7)
        have HBe0 : Hid (Below w7.heap.size w7 (w7.alloc (.cells #[.pointer none, .slice none 0 0] 102))) := Lib.hid ((Below.refl _ _).alloc (Nat.le_refl _) _)
        obtain ⟨P, hPP⟩ : ∃ P, S.parts = P := ⟨_, rfl⟩
        have hpl : P.length ≤ 1000 := by rw [← hPP]; exact HS.out.1
        have HOk : Hid (∀ p ∈ P, p.ok 255) := Lib.hid (by rw [← hPP]; exact HS.out.2.2)
        have hparts := Lib.hid hN.out.parts
        rw [hPP] at s0 HD2 hparts
        clear HS hpcs hPP
        go_wp2_with fail
        go_loopw [10, 12, 13, 42] (fun so _ _ v wr => ∃ (j : Nat), v = .int .i64 (j : Int) ∧ j ≤ P.length ∧ so = .bool (someTo P M E j) ∧ Hid (Lib.IsBuilder 102 5 w7.heap.size w7.heap.size (Lib.byteCells (gath P M E j)) wr) ∧ Hid (Below w7.heap.size w7 wr)) (fun _ _ _ v _ => P.length - (intOf v).toNat)
        case atStart => exact ⟨0, rfl, Nat.zero_le _, rfl, HBu0, HBe0⟩
        case round =>
          obtain ⟨j, rfl, hj, rfl, hBu, hBe⟩ := hrel
          clear HBu0 HBe0
          by_cases hlt3 : j < P.length
          · have hown := own_next hBe.out hparts.out
            obtain ⟨g2, c2, e2, -, hg2⟩ := hown.form (by omega)
            injection e2 with e2 _ e3
            subst e2
            subst e3
            have hpt := fun k (hk : k < 7) => (hown.cellAt (j * 7 + k) (by omega)).trans (partsC_at P j k hlt3 hk)
            have k0 := hpt 0 (by decide)
            have k1 := hpt 1 (by decide)
            have k2 := hpt 2 (by decide)
            have k3 := hpt 3 (by decide)
            have k4 := hpt 4 (by decide)
            have k5 := hpt 5 (by decide)
            have k6 := hpt 6 (by decide)
            have hgs := Lib.hid (gath_succ P M E j hlt3)
            have hss := Lib.hid (someTo_succ P M E j hlt3)
            have hpo := Lib.hid (HOk.out P[j] (List.getElem_mem hlt3))
            have hgl := gath_len P M E hr.out.1 HOk.out j hj
            have hpl2 := partText_len P[j] M E hr.out.1 hpo.out
            have HNr := Lib.hid (hN.out.next hBe.out)
            clear hpt hown
            generalize P[j] = p at *
            simp only [partC, List.getElem?_toArray, List.getElem?_cons_zero, List.getElem?_cons_succ, Nat.add_zero] at k0 k1 k2 k3 k4 k5 k6
            go_upto_region 17 with fail
            have hbn : Below wr.heap.size wr (wr.alloc (.cells (partC p) 95)) := (Below.refl _ _).alloc (Nat.le_refl _) _
            obtain ⟨W1, hW1⟩ : ∃ W1, wr.alloc (.cells #[.int .i64 (p.kind : Int), .string ⟨p.text.toArray⟩, .int .i64 (p.whole : Int), .bool p.comma, .bool p.point, .int .i64 (p.most : Int), .int .i64 (p.least : Int)] 95) = W1 := ⟨_, rfl⟩
            have hbn2 : Below wr.heap.size wr W1 := by rw [← hW1]; exact hbn
            have HP1 : Hid (Lies W1 wr.heap.size 95 (partC p)) := Lib.hid (by rw [← hW1]; exact Lies.new wr _ _)
            have HN1 := Lib.hid (HNr.out.next hbn2)
            have HBu1 := Lib.hid (IsBuilder.next hBu.out hbn2)
            have HBe1 : Hid (Below w7.heap.size w7 W1) := Lib.hid (hBe.out.trans (hbn2.mono hBe.out.size))
            rw [hW1]
            generalize wr.heap.size = q at *
            clear hbn hbn2 hW1 HNr hBu hBe k0 k1 k2 k3 k4 k5 k6
            obtain ⟨p0, p1, p2, p3, p4, p5, p6⟩ := lies_cells HP1.out
            obtain ⟨kd, tp, wh, cm, pt, ms, ls⟩ := p
            dsimp only at p0 p1 p2 p3 p4 p5 p6
            have x0 := HN1.out.num.cell 0
            have x1 := HN1.out.num.cell 1
            simp only [List.getElem?_toArray, List.getElem?_cons_zero, List.getElem?_cons_succ] at x0 x1
            have CTx := Lib.hid (fun W h => nText_right M E W h (by have := rb hr.out.1; omega) (by have := rb hr.out.1; omega) hr.out.1)
            have CPl := Lib.hid (fun W h h' => places_any ⟨kd, tp, wh, cm, pt, ms, ls⟩ M E W h h' hr.out.1 (by have := hpo.out.2.1; dsimp only at this ⊢; omega) (by have := hpo.out.2.2.1; dsimp only at this ⊢; omega) (by have := hpo.out.2.2.2.1; dsimp only at this ⊢; omega))
            have hpt : Hid (partText ⟨kd, tp, wh, cm, pt, ms, ls⟩ M E = if kd = 3 then nText M E else if kd = 4 then pPlaces ⟨kd, tp, wh, cm, pt, ms, ls⟩ M E else tp) := Lib.hid rfl
            have hps : Hid (partSome ⟨kd, tp, wh, cm, pt, ms, ls⟩ M E = ((decide (kd = 3) || decide (kd = 4)) && oneNine (partText ⟨kd, tp, wh, cm, pt, ms, ls⟩ M E))) := Lib.hid rfl
            have hasc : Hid (kd = 3 ∨ kd = 4 → Ascii (partText ⟨kd, tp, wh, cm, pt, ms, ls⟩ M E)) := Lib.hid (fun h => by
              rw [hpt.out]
              rcases h with rfl | rfl
              · exact nText_ascii _ _
              · exact pPlaces_ascii _ _ _)
            generalize partText ⟨kd, tp, wh, cm, pt, ms, ls⟩ M E = T at *
            go_upto_block 4 with fail
            go_cut [13] (fun v wx => v = .string ⟨T.toArray⟩ ∧ Hid (Below W1.heap.size W1 wx))
            case first =>
              by_cases h3 : kd = 3
              · subst h3
                have hT : Hid (T = nText M E) := Lib.hid hpt.out
                go_wp2_with fail
                refine (CTx.out _ (HP.out.next HN1.out.bel)).mono ?_
                rintro x w8 ⟨rfl, hb⟩
                have HB8 := Lib.hid hb
                clear hb
                go_wp2_with fail
                go_meet
                exact ⟨by rw [hT.out], HB8⟩
              have b3 : ((kd : Int) == 3) = false := by rw [beq_eq_false_iff_ne]; omega
              by_cases h4' : kd = 4
              · subst h4'
                have hT : Hid (T = pPlaces ⟨4, tp, wh, cm, pt, ms, ls⟩ M E) := Lib.hid hpt.out
                go_wp2_with fail
                refine (CPl.out _ (HP.out.next HN1.out.bel) (HM.out.next HN1.out.bel)).mono ?_
                rintro x w8 ⟨rfl, hb⟩
                have HB8 := Lib.hid hb
                clear hb
                go_wp2_with fail
                go_meet
                exact ⟨by rw [hT.out], HB8⟩
              have b4 : ((kd : Int) == 4) = false := by rw [beq_eq_false_iff_ne]; omega
              have hT : Hid (T = tp) := Lib.hid (by rw [hpt.out, if_neg h3, if_neg h4'])
              go_wp2_with fail
              go_meet
              exact ⟨by rw [hT.out], Lib.hid (Below.refl _ _)⟩
            case rest =>
              obtain ⟨rfl, hb⟩ := hcut
              have HN2 := Lib.hid (HN1.out.next hb.out)
              have HBu2 := Lib.hid (IsBuilder.next HBu1.out hb.out)
              have HBe2 : Hid (Below w7.heap.size w7 wc) := Lib.hid (HBe1.out.trans (hb.out.mono HBe1.out.size))
              have HP2 := Lib.hid (Lies.below HP1.out hb.out)
              clear hb HN1 HBu1 HBe1 HP1 CTx CPl hpt p0 p1 p2 p3 p4 p5 p6 x0 x1
              have p0 := HP2.out.cell 0
              simp only [partC, List.getElem?_toArray, List.getElem?_cons_zero] at p0
              have CA := Lib.hid (fun W h => any_any T W h (by omega))
              have hss2 : Hid (someTo P M E (j + 1) = (someTo P M E j || ((decide (kd = 3) || decide (kd = 4)) && oneNine T))) := Lib.hid (by rw [hss.out, hps.out])
              obtain ⟨s1, hs1⟩ : ∃ s1, someTo P M E (j + 1) = s1 := ⟨_, rfl⟩
              have HS1 := Lib.hid hs1
              rw [hs1] at hss2
              clear hss hps hs1
              go_upto_region 23 with fail
              go_cut [10] (fun v wx => v = .bool s1 ∧ Hid (Below wc.heap.size wc wx))
              case first =>
                cases hsj : someTo P M E j
                · by_cases h3 : kd = 3
                  · subst h3
                    have hv : Hid (s1 = oneNine T) := Lib.hid (by rw [hss2.out, hsj]; rfl)
                    go_wp2_with fail
                    refine (CA.out _ (hasc.out (by simp))).mono ?_
                    rintro x w8 ⟨rfl, hb⟩
                    have HB8 := Lib.hid hb
                    clear hb
                    go_wp2_with fail
                    go_meet
                    exact ⟨by rw [hv.out], HB8⟩
                  have b3 : ((kd : Int) == 3) = false := by rw [beq_eq_false_iff_ne]; omega
                  by_cases h4' : kd = 4
                  · subst h4'
                    have hv : Hid (s1 = oneNine T) := Lib.hid (by rw [hss2.out, hsj]; rfl)
                    go_wp2_with fail
                    refine (CA.out _ (hasc.out (by simp))).mono ?_
                    rintro x w8 ⟨rfl, hb⟩
                    have HB8 := Lib.hid hb
                    clear hb
                    go_wp2_with fail
                    go_meet
                    exact ⟨by rw [hv.out], HB8⟩
                  have b4 : ((kd : Int) == 4) = false := by rw [beq_eq_false_iff_ne]; omega
                  have hv : Hid (s1 = false) := Lib.hid (by rw [hss2.out, hsj, decide_eq_false h3, decide_eq_false h4']; rfl)
                  go_wp2_with fail
                  go_meet
                  exact ⟨by rw [hv.out], Lib.hid (Below.refl _ _)⟩
                · have hv : Hid (s1 = true) := Lib.hid (by rw [hss2.out, hsj]; rfl)
                  go_wp2_with fail
                  go_meet
                  exact ⟨by rw [hv.out], Lib.hid (Below.refl _ _)⟩
              case rest =>
                obtain ⟨rfl, hb⟩ := hcut
                rename_i wd _ _
                have HN3 := Lib.hid (HN2.out.next hb.out)
                have HBu3 := Lib.hid (IsBuilder.next HBu2.out hb.out)
                have HBe3 := Lib.hid (HBe2.out.trans (hb.out.mono HBe2.out.size))
                clear hb HN2 HBu2 HBe2 HP2 CA hss2 hasc p0
                go_wp2_with fail
                refine (writeString_any w7.heap.size w7.heap.size (gath P M E j) T _ HBu3.out (by omega) HBe3.out.size).mono ?_
                rintro x w9 ⟨rfl, hbu, hbe⟩
                have HBu4 : Hid (Lib.IsBuilder 102 5 w7.heap.size w7.heap.size (Lib.byteCells (gath P M E (j + 1))) w9) := Lib.hid (by rw [hgs.out]; exact hbu)
                have HBe4 := Lib.hid (HBe3.out.trans hbe)
                clear hbu hbe HBu3 HBe3 hgs HN3
                go_wp2_with fail
                go_roundw
                case rel => exact ⟨j + 1, by go_num, by omega, by rw [HS1.out], HBu4, HBe4⟩
                case measure => simp [intOf]; omega
          · have hje : P.length ≤ j := by omega
            have hg := Lib.hid (gath_all P M E j hje)
            have hso := Lib.hid (someTo_all P M E j hje)
            have HNf := Lib.hid (hN.out.next hBe.out)
            have l1 := HNf.out.fmt.cell 1
            simp only [List.getElem?_toArray, List.getElem?_cons_zero, List.getElem?_cons_succ] at l1
            have hgl := gath_len P M E hr.out.1 HOk.out j hj
            by_cases hneg : m < 0
            · have hsg : sgn m < 0 := by rw [show sgn m = -1 from if_pos hneg]; decide
              by_cases h2 : L.length < 2
              · cases hsj : someTo P M E j
                · have hout : Hid (out = gath P M E j) := Lib.hid (by rw [HD2.out, if_neg (fun h => by have := h.2.2; rw [← hso.out, hsj] at this; cases this), hg.out])
                  clear HD2 hg hso HNf
                  go_wp2_with fail
                  refine (Tryd.Builder_String_any w7.heap.size w7.heap.size (gath P M E j) _ hBu.out hBe.out.size).mono ?_
                  rintro x w9 ⟨rfl, hb⟩
                  have HBf := Lib.hid (hN.out.bel.trans ((hBe.out.trans hb).mono hN.out.bel.size))
                  clear hb
                  go_wp2_with fail
                  go_ret
                  exact ⟨by rw [hout.out]; rfl, HBf.out⟩
                · have hout : Hid (out = 45 :: gath P M E j) := Lib.hid (by rw [HD2.out, if_pos ⟨hneg, h2, by rw [← hso.out, hsj]⟩, hg.out])
                  clear HD2 hg hso HNf
                  go_wp2_with fail
                  refine (Tryd.Builder_String_any w7.heap.size w7.heap.size (gath P M E j) _ hBu.out hBe.out.size).mono ?_
                  rintro x w9 ⟨rfl, hb⟩
                  have HBf := Lib.hid (hN.out.bel.trans ((hBe.out.trans hb).mono hN.out.bel.size))
                  clear hb
                  go_wp2_with fail
                  go_ret
                  exact ⟨by rw [hout.out]; rfl, HBf.out⟩
              · have hout : Hid (out = gath P M E j) := Lib.hid (by rw [HD2.out, if_neg (fun h => h2 h.2.1), hg.out])
                clear HD2 hg hso HNf
                go_wp2_with fail
                refine (Tryd.Builder_String_any w7.heap.size w7.heap.size (gath P M E j) _ hBu.out hBe.out.size).mono ?_
                rintro x w9 ⟨rfl, hb⟩
                have HBf := Lib.hid (hN.out.bel.trans ((hBe.out.trans hb).mono hN.out.bel.size))
                clear hb
                go_wp2_with fail
                go_ret
                exact ⟨by rw [hout.out]; rfl, HBf.out⟩
            · have hsg : 0 ≤ sgn m := by rcases sgn_cases m with ⟨_, _⟩ | ⟨_, h⟩ | ⟨_, h⟩ <;> omega
              have hout : Hid (out = gath P M E j) := Lib.hid (by rw [HD2.out, if_neg (fun h => hneg h.1), hg.out])
              clear HD2 hg hso HNf
              go_wp2_with fail
              refine (Tryd.Builder_String_any w7.heap.size w7.heap.size (gath P M E j) _ hBu.out hBe.out.size).mono ?_
              rintro x w9 ⟨rfl, hb⟩
              have HBf := Lib.hid (hN.out.bel.trans ((hBe.out.trans hb).mono hN.out.bel.size))
              clear hb
              go_wp2_with fail
              go_ret
              exact ⟨by rw [hout.out]; rfl, HBf.out⟩
end Go.Proofs.YteccjdclkcipbaaDoor
