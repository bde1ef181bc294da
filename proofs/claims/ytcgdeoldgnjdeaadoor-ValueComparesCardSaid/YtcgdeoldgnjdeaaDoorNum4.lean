/-
  (*num.reader).take: what it does.
-/
import Derived.Test.YtcgdeoldgnjdeaaDoorNum3
namespace Go.Proofs.YtcgdeoldgnjdeaaDoor
open Go.RowKit

theorem take_digit (r : Rd) (c : Nat) (h : 48 ≤ c ∧ c ≤ 57) : r.take c = some (r.digit (c - 48)) := if_pos h
/-- what take leaves -/
def TakePost (r : Rd) (c b base : Nat) (w : World) (e : Ending) (w' : World) : Prop :=
  match r.take c with
  | none => e = .returned (.bool false) ∧ w = w'
  | some r' => e = .returned (.bool true) ∧ RdIn w' b base r' ∧ Kept b base w w'
theorem takePost_none {r : Rd} {c b base : Nat} {w : World} (h : r.take c = none) : TakePost r c b base w (.returned (.bool false)) w := by
  unfold TakePost; rw [h]; exact ⟨rfl, rfl⟩
theorem takePost_some {r r' : Rd} {c b base : Nat} {w w' : World} (h : r.take c = some r') (h1 : RdIn w' b base r') (h2 : Kept b base w w') : TakePost r c b base w (.returned (.bool true)) w' := by
  unfold TakePost; rw [h]; exact ⟨rfl, h1, h2⟩
theorem rd_put1 {w : World} {b base i : Nat} {r r' : Rd} {u : Value} (h : RdIn w b base r) (hb : b < base) (hd : r'.ds = r.ds) (hc : ∀ v, (rdCells r v).setIfInBounds i u = rdCells r' v) : RdIn (w.setCell ⟨b, i, none⟩ u) b base r' := by
  obtain ⟨v, hl, hown⟩ := h
  refine ⟨v, by rw [← hc]; exact hl.put i u, ?_⟩
  rw [hd]
  exact ownsRow_setCell_below hown (a := ⟨b, i, none⟩) hb u
set_option maxRecDepth 100000 in
set_option maxHeartbeats 3200000 in
theorem take_no (r : Rd) (c b base : Nat) (w : World) (hc31 : c ≤ 2147483647) (h : RdIn w b base r) (ht : r.take c = none) :
    Calls Tryd.prog 101 #[.pointer (some ⟨b, 0, none⟩), .int .i32 (c : Int)] w fun e w' => TakePost r c b base w e w' := by
  have HT := Lib.hid ht
  have hno : ¬ (48 ≤ c ∧ c ≤ 57) := fun g => by rw [take_digit r c g] at ht; cases ht
  have h45 : ¬ (c = 45 ∧ r.st = 0) := fun g => by unfold Rd.take at ht; rw [if_neg hno, if_pos g] at ht; cases ht
  have h46 : ¬ (c = 46 ∧ r.st ≤ 2) := fun g => by unfold Rd.take at ht; rw [if_neg hno, if_neg h45, if_pos g] at ht; cases ht
  have hE : ¬ ((c = 101 ∨ c = 69) ∧ (r.st = 2 ∨ r.st = 4)) := fun g => by unfold Rd.take at ht; rw [if_neg hno, if_neg h45, if_neg h46, if_pos g] at ht; cases ht
  have hP : ¬ ((c = 45 ∨ c = 43) ∧ r.st = 5) := fun g => by unfold Rd.take at ht; rw [if_neg hno, if_neg h45, if_neg h46, if_neg hE, if_pos g] at ht; cases ht
  clear ht
  obtain ⟨v, hl, hown⟩ := h
  have c0 := hl.cell 0
  simp [rdCells] at c0
  obtain ⟨s, hs⟩ : ∃ s : Int, (r.st : Int) = s := ⟨_, rfl⟩
  rw [hs] at c0
  have hs0 : 0 ≤ s := by omega
  by_cases g45 : c = 45
  · subst g45
    have b0 : (s == 0) = false := by rw [beq_eq_false_iff_ne]; omega
    have b5 : (s == 5) = false := by rw [beq_eq_false_iff_ne]; omega
    clear hno h45 h46 hE hP hs hl hown
    go_enter Tryd.func101, Tryd.ntmps101
    go_wp2_with fail
    go_ret
    exact takePost_none HT.out
  by_cases g46 : c = 46
  · subst g46
    have b2 : (s == 2) = false := by rw [beq_eq_false_iff_ne]; omega
    have b1 : decide (s ≤ 1) = false := by simp; omega
    clear hno h45 h46 hE hP hs hl hown
    go_enter Tryd.func101, Tryd.ntmps101
    go_wp2_with fail
    go_ret
    exact takePost_none HT.out
  by_cases g101 : c = 101
  · subst g101
    have b2 : (s == 2) = false := by rw [beq_eq_false_iff_ne]; omega
    have b4 : (s == 4) = false := by rw [beq_eq_false_iff_ne]; omega
    clear hno h45 h46 hE hP hs hl hown
    go_enter Tryd.func101, Tryd.ntmps101
    go_wp2_with fail
    go_ret
    exact takePost_none HT.out
  by_cases g69 : c = 69
  · subst g69
    have b2 : (s == 2) = false := by rw [beq_eq_false_iff_ne]; omega
    have b4 : (s == 4) = false := by rw [beq_eq_false_iff_ne]; omega
    clear hno h45 h46 hE hP hs hl hown
    go_enter Tryd.func101, Tryd.ntmps101
    go_wp2_with fail
    go_ret
    exact takePost_none HT.out
  by_cases g43 : c = 43
  · subst g43
    have b5 : (s == 5) = false := by rw [beq_eq_false_iff_ne]; omega
    clear hno h45 h46 hE hP hs hl hown
    go_enter Tryd.func101, Tryd.ntmps101
    go_wp2_with fail
    go_ret
    exact takePost_none HT.out
  have q45 : ((c : Int) == 45) = false := by rw [beq_eq_false_iff_ne]; omega
  have q46 : ((c : Int) == 46) = false := by rw [beq_eq_false_iff_ne]; omega
  have q101 : ((c : Int) == 101) = false := by rw [beq_eq_false_iff_ne]; omega
  have q69 : ((c : Int) == 69) = false := by rw [beq_eq_false_iff_ne]; omega
  have q43 : ((c : Int) == 43) = false := by rw [beq_eq_false_iff_ne]; omega
  clear h45 h46 hE hP hs hl hown g45 g46 g101 g69 g43
  go_enter Tryd.func101, Tryd.ntmps101
  go_wp2_with fail
  all_goals go_ret
  all_goals exact takePost_none HT.out
set_option maxRecDepth 100000 in
set_option maxHeartbeats 3200000 in
theorem take_yes (r r' : Rd) (c b base : Nat) (w : World) (h : RdIn w b base r) (hb : b < base) (hbs : base ≤ w.heap.size) (hf : r.Fit) (ht : r.take c = some r') :
    Calls Tryd.prog 101 #[.pointer (some ⟨b, 0, none⟩), .int .i32 (c : Int)] w fun e w' => TakePost r c b base w e w' := by
  have HT := Lib.hid ht
  have HI := Lib.hid h
  by_cases hd : 48 ≤ c ∧ c ≤ 57
  · obtain ⟨d1, d2⟩ := hd
    have e := take_digit r c ⟨d1, d2⟩
    rw [ht] at e
    injection e with e
    have HE := Lib.hid e
    clear e ht
    go_enter Tryd.func101, Tryd.ntmps101
    go_wp2_with fail
    refine (digit_any r c b base _ d1 d2 HI.out hb hbs hf).mono ?_
    rintro e w1 ⟨rfl, h1, h2⟩
    have H1 := Lib.hid h1
    have H2 := Lib.hid h2
    clear h1 h2
    go_wp2_with fail
    go_ret
    exact takePost_some HT.out (by rw [HE.out]; exact H1.out) H2.out
  have hst := hf.st
  obtain ⟨v, hl, hown⟩ := h
  have c0 := hl.cell 0
  have c1 := hl.cell 1
  have c2 := hl.cell 2
  have f0 := hl.frozen 0
  have f1 := hl.frozen 1
  have f2 := hl.frozen 2
  simp [rdCells] at c0 c1 c2
  obtain ⟨st, ng, np, ds, bh, pw⟩ := r
  dsimp only at c0 c1 c2 hst
  unfold Rd.take at ht
  rw [if_neg hd] at ht
  clear hl hown
  by_cases h45 : c = 45 ∧ st = 0
  · rw [if_pos h45] at ht
    obtain ⟨rfl, rfl⟩ := h45
    injection ht with ht
    subst ht
    clear hd hf hst
    go_enter Tryd.func101, Tryd.ntmps101
    go_wp2_with fail
    go_ret
    exact takePost_some HT.out (rd_put1 (r := ⟨0, true, np, ds, bh, pw⟩) (rd_put1 HI.out hb rfl (fun _ => rfl)) hb rfl (fun _ => rfl)) (((Kept.refl b base w).put 1 _).put 0 _)
  rw [if_neg h45] at ht
  by_cases h46 : c = 46 ∧ st ≤ 2
  · rw [if_pos h46] at ht
    obtain ⟨rfl, hs2⟩ := h46
    injection ht with ht
    subst ht
    clear hd hf hst h45
    rcases (by omega : st = 0 ∨ st = 1 ∨ st = 2) with rfl | rfl | rfl
    all_goals
      go_enter Tryd.func101, Tryd.ntmps101
      go_wp2_with fail
      go_ret
      exact takePost_some HT.out (rd_put1 HI.out hb rfl (fun _ => rfl)) ((Kept.refl b base w).put 0 _)
  rw [if_neg h46] at ht
  by_cases hE : (c = 101 ∨ c = 69) ∧ (st = 2 ∨ st = 4)
  · rw [if_pos hE] at ht
    injection ht with ht
    subst ht
    clear hd hf hst h45 h46
    obtain ⟨hc, hs⟩ := hE
    rcases hc with rfl | rfl <;> rcases hs with rfl | rfl
    all_goals
      go_enter Tryd.func101, Tryd.ntmps101
      go_wp2_with fail
      go_ret
      exact takePost_some HT.out (rd_put1 HI.out hb rfl (fun _ => rfl)) ((Kept.refl b base w).put 0 _)
  rw [if_neg hE] at ht
  by_cases hP : (c = 45 ∨ c = 43) ∧ st = 5
  · rw [if_pos hP] at ht
    injection ht with ht
    subst ht
    clear hd hf hst h45 h46 hE
    obtain ⟨hc, rfl⟩ := hP
    rcases hc with rfl | rfl
    · go_enter Tryd.func101, Tryd.ntmps101
      go_wp2_with fail
      go_ret
      exact takePost_some HT.out (rd_put1 (r := ⟨5, ng, true, ds, bh, pw⟩) (rd_put1 HI.out hb rfl (fun _ => rfl)) hb rfl (fun _ => rfl)) (((Kept.refl b base w).put 2 _).put 0 _)
    · go_enter Tryd.func101, Tryd.ntmps101
      go_wp2_with fail
      go_ret
      exact takePost_some HT.out (rd_put1 (r := ⟨5, ng, false, ds, bh, pw⟩) (rd_put1 HI.out hb rfl (fun _ => rfl)) hb rfl (fun _ => rfl)) (((Kept.refl b base w).put 2 _).put 0 _)
  rw [if_neg hP] at ht
  cases ht
end Go.Proofs.YtcgdeoldgnjdeaaDoor
