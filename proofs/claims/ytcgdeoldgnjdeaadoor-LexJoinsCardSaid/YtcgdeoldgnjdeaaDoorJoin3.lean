/-
  law05.back, ref05.Same of tokens as they came in.
-/
import Derived.Test.YtcgdeoldgnjdeaaDoorLexO
import Derived.Test.YtcgdeoldgnjdeaaDoorJoin2
namespace Go.Proofs.YtcgdeoldgnjdeaaDoor
open Go.RowKit

def zCells (t : RTok) : List Value := [.int .i64 t.kind, .string ⟨t.text.toArray⟩, .int .i64 t.place]
theorem z_one (t : RTok) : ∀ u ∈ zCells t, u.oneCell' = true := by
  intro u hu
  simp only [zCells, List.mem_cons, List.not_mem_nil, or_false] at hu
  rcases hu with rfl | rfl | rfl <;> rfl
def rowZ (ts : List RTok) : List Value := ts.flatMap zCells
theorem rowZ_snoc (ts : List RTok) (t : RTok) : rowZ (ts ++ [t]) = rowZ ts ++ zCells t := by simp [rowZ]
theorem rowZ_get (ts : List RTok) (j : Nat) (h : j < ts.length) : (rowZ ts)[j * 3]? = some (.int .i64 ts[j].kind) ∧ (rowZ ts)[j * 3 + 1]? = some (.string ⟨ts[j].text.toArray⟩) ∧ (rowZ ts)[j * 3 + 2]? = some (.int .i64 ts[j].place) := by
  induction ts generalizing j with
  | nil => simp at h
  | cons t ts ih =>
    have e : rowZ (t :: ts) = zCells t ++ rowZ ts := by simp [rowZ]
    have hl : (zCells t).length = 3 := rfl
    cases j with
    | zero => rw [e]; exact ⟨rfl, rfl, rfl⟩
    | succ j =>
      have := ih j (by simpa using h)
      rw [e]
      rw [List.getElem?_append_right (by omega), List.getElem?_append_right (by omega), List.getElem?_append_right (by omega), hl]
      rw [show (j + 1) * 3 - 3 = j * 3 by omega, show (j + 1) * 3 + 1 - 3 = j * 3 + 1 by omega, show (j + 1) * 3 + 2 - 3 = j * 3 + 2 by omega]
      simpa using this
theorem rowZ_len (ts : List RTok) : (rowZ ts).length = ts.length * 3 := by
  induction ts with
  | nil => rfl
  | cons t ts ih => rw [show rowZ (t :: ts) = zCells t ++ rowZ ts by simp [rowZ], List.length_append, ih]; simp [zCells]; omega
theorem rIn_own {w : World} {base : Nat} {e : TypeId} {A : Option Addr} {cap : Nat} {ts : List RTok} (h : w.ownsRow base e 3 (.slice A ts.length cap) ts.length (rowZ ts)) : RIn w A ts := by
  intro hp
  rcases h.2 with ⟨_, h0⟩ | ⟨g, cap', cur, hv, _⟩
  · omega
  · injection hv with hA hn hc
    subst hA hc
    have hlt := (h.lt g rfl).2
    refine ⟨g, 0, rfl, hlt, fun j hj => ?_⟩
    obtain ⟨h1, h2, h3⟩ := rowZ_get ts j hj
    refine ⟨?_, ?_, ?_⟩
    · rw [Nat.zero_add, h.cellAt _ (by omega)]; exact h1
    · rw [Nat.zero_add, h.cellAt _ (by omega)]; exact h2
    · rw [Nat.zero_add, h.cellAt _ (by omega)]; exact h3
set_option maxHeartbeats 1600000 in
set_option maxRecDepth 100000 in
theorem back_any (A : Option Addr) (cap : Nat) (ts : List RTok) (w : World) (hn : ts.length ≤ 1000000) (hin : RIn w A ts) :
    Calls Tryd.prog 48 #[.slice A ts.length cap] w fun e w' => ∃ v, e = .returned v ∧ w'.ownsRow w.heap.size 34 3 v ts.length (rowZ ts) ∧ Below w.heap.size w w' := by
  obtain ⟨i0, hi, hz0, hz1, hz2⟩ := info_parts infoTok
  have HIN := Lib.hid hin
  clear hin
  go_enter Tryd.func48, Tryd.ntmps48
  go_wp2_with fail
  go_loopw [3, 4] (fun v i wr => ∃ k : Nat, k ≤ ts.length ∧ i = .int .i64 k ∧ Hid (wr.ownsRow w.heap.size 34 3 v k (rowZ (ts.take k))) ∧ Hid (Below w.heap.size w wr)) (fun _ i _ => ts.length - (intOf i).toNat)
  case atStart => exact ⟨0, Nat.zero_le _, rfl, Lib.hid (World.ownsRow_nil _ _ _ _), Lib.hid (Below.refl _ _)⟩
  case round =>
    obtain ⟨k, hk, rfl, hown, hbel⟩ := hrel
    by_cases hlt : k < ts.length
    · obtain ⟨g, o, rfl, hg, hc⟩ := HIN.out (by omega)
      obtain ⟨c0, c1, c2⟩ := hc k hlt
      clear hc
      have d0 : wr.cell? ⟨g, o + k * 3, none⟩ = some (.int .i64 ts[k].kind) := (hbel.out.cell (p := ⟨g, _, none⟩) hg).trans c0
      have d1 : wr.cell? ⟨g, o + k * 3 + 1, none⟩ = some (.string ⟨ts[k].text.toArray⟩) := (hbel.out.cell (p := ⟨g, _, none⟩) hg).trans c1
      have d2 : wr.cell? ⟨g, o + k * 3 + 2, none⟩ = some (.int .i64 ts[k].place) := (hbel.out.cell (p := ⟨g, _, none⟩) hg).trans c2
      clear c0 c1 c2
      have hk0 : (0 : Int) ≤ (k : Int) := Int.natCast_nonneg _
      have hk1 : (k : Int) < (ts.length : Int) := by omega
      have ag : u3.ownBlock ≠ some g := fun e => by have := (hown.out.lt g e).1; omega
      have hsz := hbel.out.size
      have hsn : rowZ (ts.take (k + 1)) = rowZ (ts.take k) ++ zCells ts[k] := by rw [List.take_succ_eq_append_getElem hlt, rowZ_snoc]
      have HSN := Lib.hid hsn
      clear hsn
      have h63 : k + 1 ≤ maxLen := by unfold maxLen; omega
      have h47 : (k + 1) * 32 ≤ 140737488355328 := by omega
      go_wp2_with fail
      go_region_held3 (fun w' => w'.cell? ⟨g, o + k * 3, none⟩ = some (.int .i64 ts[k].kind) ∧ w'.cell? ⟨g, o + k * 3 + 1, none⟩ = some (.string ⟨ts[k].text.toArray⟩) ∧ w'.cell? ⟨g, o + k * 3 + 2, none⟩ = some (.int .i64 ts[k].place))
        (first
          | go_keep
          | (go_split_ands
             refine ⟨?_, ?_, ?_⟩
             · (rw [hgrow.cell_far _ (by simp; omega) (Ne.symm ag)]; assumption)
             · (rw [hgrow.cell_far _ (by simp; omega) (Ne.symm ag)]; assumption)
             · (rw [hgrow.cell_far _ (by simp; omega) (Ne.symm ag)]; assumption)))
        ((refine step_append_lies _ (by rfl) _ _ _ (by rfl) w.heap.size 34 i0 _ 3 32 Tryd.underlying23 hi hz0 hz1 hz2 rfl (by omega) u3 k (rowZ (ts.take k)) (by rfl) ((hown.out.alloc _).drew)
            ⟨wr.heap.size, 0, none⟩ 1 1 (zCells ts[k]) (by rfl) (by rfl) (World.news_of_block (cs := #[.int .i64 ts[k].kind, .string ⟨ts[k].text.toArray⟩, .int .i64 ts[k].place]) (t := 34) (fr := (0, 0)) (heap_alloc_new wr _)) (z_one _)
            (by omega) h63 h47 (by simp; omega) (wr.heap.size + 1) (by simp) ?_; intro gg cap2 w1 hown1 hgrow hat hlt1))
      have HB1 : Hid (Below w.heap.size w w1) := Lib.hid (((hbel.out.alloc hsz _).drew).grown hgrow (by simp; omega) (fun j hj => (hown.out.lt j hj).1))
      have HO1 := Lib.hid hown1
      clear hown1 hgrow hat hlt1
      go_wp2_with fail
      go_roundw
      case rel => exact ⟨k + 1, by omega, by go_num, Lib.hid (by rw [HSN.out]; exact HO1.out), HB1⟩
      case measure => simp [intOf]; omega
    · obtain rfl : k = ts.length := by omega
      go_wp2_with fail
      go_ret
      exact ⟨_, rfl, by rw [List.take_length] at hown; exact hown.out, hbel.out⟩

theorem back_at (A : Option Addr) (cap : Nat) (ts : List RTok) (w : World) (hl : ts.length ≤ 1000000) (hin : RIn w A ts) :
    Calls Tryd.prog 48 #[.slice A ts.length cap] w fun e w' => ∃ A' c', e = .returned (.slice A' ts.length c') ∧ RIn w' A' ts ∧ Below w.heap.size w w' := by
  refine (back_any A cap ts w hl hin).mono ?_
  rintro e w' ⟨v, rfl, ho, hb⟩
  obtain ⟨A', c', rfl⟩ := own_slice ho
  exact ⟨A', c', rfl, rIn_own ho, hb⟩
def SameZ (ts us : List RTok) : Prop := ts.length = us.length ∧ ∀ j (h : j < ts.length) (h' : j < us.length), us[j].kind = ts[j].kind ∧ us[j].text = ts[j].text
set_option maxRecDepth 100000 in
set_option maxHeartbeats 1600000 in
theorem sameR_yes (A B : Option Addr) (ca cb : Nat) (ts us : List RTok) (w : World) (hn : ts.length ≤ 1000000) (ha : RIn w A ts) (hb : RIn w B us) (h : SameZ ts us) :
    Calls Tryd.prog 21 #[.slice A ts.length ca, .slice B us.length cb, .bool false] w fun e w' => e = .returned (.bool true) ∧ Below w.heap.size w w' := by
  obtain ⟨hlen, hsame⟩ := h
  have HA := Lib.hid ha
  have HB := Lib.hid hb
  have HS := Lib.hid hsame
  rw [← hlen]
  have HL := Lib.hid hlen
  clear ha hb hsame hlen
  go_enter Tryd.func21, Tryd.ntmps21
  go_wp2_with fail
  go_loopw [7] (fun i wr => ∃ k : Nat, k ≤ ts.length ∧ i = .int .i64 k ∧ Hid (Below w.heap.size w wr)) (fun i _ => ts.length - (intOf i).toNat)
  case atStart => exact ⟨0, Nat.zero_le _, rfl, Lib.hid (Below.refl _ _)⟩
  case round =>
    obtain ⟨k, hk, rfl, hbel⟩ := hrel
    by_cases hlt : k < ts.length
    · have hlt2 : k < us.length := by rw [← HL.out]; exact hlt
      obtain ⟨g, o, rfl, hg, hc⟩ := HA.out (by omega)
      obtain ⟨g2, o2, rfl, hg2, hc2⟩ := HB.out (by omega)
      obtain ⟨c0, c1, c2⟩ := hc k hlt
      obtain ⟨e0, e1, e2⟩ := hc2 k hlt2
      obtain ⟨s0, s1⟩ := HS.out k hlt hlt2
      clear hc hc2
      rw [s0] at e0
      rw [s1] at e1
      have d0 : wr.cell? ⟨g, o + k * 3, none⟩ = some (.int .i64 ts[k].kind) := (hbel.out.cell (p := ⟨g, _, none⟩) hg).trans c0
      have d1 : wr.cell? ⟨g, o + k * 3 + 1, none⟩ = some (.string ⟨ts[k].text.toArray⟩) := (hbel.out.cell (p := ⟨g, _, none⟩) hg).trans c1
      have d2 : wr.cell? ⟨g, o + k * 3 + 2, none⟩ = some (.int .i64 ts[k].place) := (hbel.out.cell (p := ⟨g, _, none⟩) hg).trans c2
      have f0 : wr.cell? ⟨g2, o2 + k * 3, none⟩ = some (.int .i64 ts[k].kind) := (hbel.out.cell (p := ⟨g2, _, none⟩) hg2).trans e0
      have f1 : wr.cell? ⟨g2, o2 + k * 3 + 1, none⟩ = some (.string ⟨ts[k].text.toArray⟩) := (hbel.out.cell (p := ⟨g2, _, none⟩) hg2).trans e1
      have hk0 : (0 : Int) ≤ (k : Int) := Int.natCast_nonneg _
      have hk1 : (k : Int) < (ts.length : Int) := by omega
      clear c0 c1 c2 e0 e1 s0 s1 HS
      clear e2
      go_wp2_with fail
      go_quiet (fail)
      go_wp2_with fail
      go_roundw
      case rel => exact ⟨k + 1, by omega, by go_num, Lib.hid (below_drewN hbel.out _)⟩
      case measure => simp [intOf]; omega
    · go_wp2_with fail
      go_ret
      exact ⟨rfl, hbel.out⟩
theorem sameR_at (A B : Option Addr) (n ca cb : Nat) (ts us : List RTok) (w : World) (h1 : ts.length = n) (h2 : us.length = n) (hn : n ≤ 1000000) (ha : RIn w A ts) (hb : RIn w B us) (h : SameZ ts us) :
    Calls Tryd.prog 21 #[.slice A n ca, .slice B n cb, .bool false] w fun e w' => e = .returned (.bool true) ∧ Below w.heap.size w w' := by
  have := sameR_yes A B ca cb ts us w (by omega) ha hb h
  rw [h1, h2] at this
  exact this
end Go.Proofs.YtcgdeoldgnjdeaaDoor
