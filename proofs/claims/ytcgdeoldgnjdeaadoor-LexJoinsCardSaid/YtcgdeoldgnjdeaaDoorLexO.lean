/-
  counterpanelaw05.of and counterpaneref05.Same: tokens of the one package as tokens of the other one; two rows of tokens held against each other.
-/
import Derived.Test.YtcgdeoldgnjdeaaDoorLexA
import Derived.Deep.AppendLies
namespace Go.Proofs.YtcgdeoldgnjdeaaDoor
open Go.RowKit

/-- tokens that lie in memory, as a slice of them -/
def TokIn (w : World) (A : Option Addr) (ts : List Tok) : Prop := 0 < ts.length → ∃ g o, A = some ⟨g, o, none⟩ ∧ g < w.heap.size ∧
  ∀ j (h : j < ts.length), w.cell? ⟨g, o + j * 3, none⟩ = some (.int .i64 ts[j].kind) ∧ w.cell? ⟨g, o + j * 3 + 1, none⟩ = some (.string ⟨ts[j].text.toArray⟩) ∧ w.cell? ⟨g, o + j * 3 + 2, none⟩ = some (.int .i64 ts[j].place)
theorem TokIn.next {w w' : World} {A : Option Addr} {ts : List Tok} (h : TokIn w A ts) (hb : Below w.heap.size w w') : TokIn w' A ts := by
  intro hp
  obtain ⟨g, o, hA, hg, hc⟩ := h hp
  refine ⟨g, o, hA, by have := hb.size; omega, fun j hj => ?_⟩
  obtain ⟨h1, h2, h3⟩ := hc j hj
  exact ⟨(hb.cell (p := ⟨g, _, none⟩) hg).trans h1, (hb.cell (p := ⟨g, _, none⟩) hg).trans h2, (hb.cell (p := ⟨g, _, none⟩) hg).trans h3⟩
theorem TokIn.below {w w' : World} {A : Option Addr} {ts : List Tok} (h : TokIn w A ts) (hb : Below w.heap.size w w') : TokIn w' A ts := h.next hb
theorem rowCells_get (ts : List Tok) (j : Nat) (h : j < ts.length) : (rowCells ts)[j * 3]? = some (.int .i64 ts[j].kind) ∧ (rowCells ts)[j * 3 + 1]? = some (.string ⟨ts[j].text.toArray⟩) ∧ (rowCells ts)[j * 3 + 2]? = some (.int .i64 ts[j].place) := by
  induction ts generalizing j with
  | nil => simp at h
  | cons t ts ih =>
    have e : rowCells (t :: ts) = tokCells t ++ rowCells ts := by simp [rowCells]
    have hl : (tokCells t).length = 3 := rfl
    cases j with
    | zero => rw [e]; exact ⟨rfl, rfl, rfl⟩
    | succ j =>
      have := ih j (by simpa using h)
      rw [e]
      rw [List.getElem?_append_right (by omega), List.getElem?_append_right (by omega), List.getElem?_append_right (by omega), hl]
      rw [show (j + 1) * 3 - 3 = j * 3 by omega, show (j + 1) * 3 + 1 - 3 = j * 3 + 1 by omega, show (j + 1) * 3 + 2 - 3 = j * 3 + 2 by omega]
      simpa using this
theorem rowCells_len (ts : List Tok) : (rowCells ts).length = ts.length * 3 := by
  induction ts with
  | nil => rfl
  | cons t ts ih => rw [show rowCells (t :: ts) = tokCells t ++ rowCells ts by simp [rowCells], List.length_append, ih]; simp [tokCells]; omega
theorem tokIn_own {w : World} {base : Nat} {e : TypeId} {A : Option Addr} {cap : Nat} {ts : List Tok} (h : w.ownsRow base e 3 (.slice A ts.length cap) ts.length (rowCells ts)) : TokIn w A ts := by
  intro hp
  rcases h.2 with ⟨_, h0⟩ | ⟨g, cap', cur, hv, _⟩
  · omega
  · injection hv with hA hn hc
    subst hA hc
    have hlt := (h.lt g rfl).2
    refine ⟨g, 0, rfl, hlt, fun j hj => ?_⟩
    obtain ⟨h1, h2, h3⟩ := rowCells_get ts j hj
    refine ⟨?_, ?_, ?_⟩
    · rw [Nat.zero_add, h.cellAt _ (by omega)]; exact h1
    · rw [Nat.zero_add, h.cellAt _ (by omega)]; exact h2
    · rw [Nat.zero_add, h.cellAt _ (by omega)]; exact h3
theorem infoRef : (Tryd.prog.info? 54).map (fun i => (i.zero, i.size, i.bytes)) = some (some (.agg #[.int .i64 0, .string ⟨#[]⟩, .int .i64 0]), 3, 32) := by kernel_rfl
theorem ref_news {w : World} (t : Tok) : ∀ j u, (tokCells t)[j]? = some u → (w.alloc (.cells #[.int .i64 t.kind, .string ⟨t.text.toArray⟩, .int .i64 t.place] 54)).cell? ((⟨w.heap.size, 0, none⟩ : Addr).add j) = some u := by
  intro j u hj
  match j, hj with
  | 0, hj => simp [tokCells] at hj; subst hj; simp [Addr.add]
  | 1, hj => simp [tokCells] at hj; subst hj; simp [Addr.add]
  | 2, hj => simp [tokCells] at hj; subst hj; simp [Addr.add]

set_option maxHeartbeats 1600000 in
set_option maxRecDepth 100000 in
theorem of_any (A : Option Addr) (cap : Nat) (ts : List Tok) (w : World) (hn : ts.length ≤ 1000000) (hin : TokIn w A ts) :
    Calls Tryd.prog 22 #[.slice A ts.length cap] w fun e w' => ∃ v, e = .returned v ∧ w'.ownsRow w.heap.size 54 3 v ts.length (rowCells ts) ∧ Below w.heap.size w w' := by
  obtain ⟨i0, hi, hz0, hz1, hz2⟩ := info_parts infoRef
  have HIN := Lib.hid hin
  clear hin
  go_enter Tryd.func22, Tryd.ntmps22
  go_wp2_with fail
  go_loopw [3, 4] (fun v i wr => ∃ k : Nat, k ≤ ts.length ∧ i = .int .i64 k ∧ Hid (wr.ownsRow w.heap.size 54 3 v k (rowCells (ts.take k))) ∧ Hid (Below w.heap.size w wr)) (fun _ i _ => ts.length - (intOf i).toNat)
  case atStart => exact ⟨0, Nat.zero_le _, rfl, Lib.hid (World.ownsRow_nil _ _ _ _), Lib.hid (Below.refl _ _)⟩
  case round =>
    obtain ⟨k, hk, rfl, hown, hbel⟩ := hrel
    by_cases hlt : k < ts.length
    · obtain ⟨g, o, rfl, hg, hc⟩ := HIN.out (by omega)
      obtain ⟨c0, c1, c2⟩ := hc k hlt
      clear hc
      have d0 : wr.cell? ⟨g, o + k * 3, none⟩ = some (.int .i64 ts[k].kind) := (hbel.out.cell (p := ⟨g, _, none⟩) hg).trans c0
      have d1 : wr.cell? ⟨g, o + k * 3 + 1, none⟩ = some (.string ⟨ts[k].text.toArray⟩) := (hbel.out.cell (p := ⟨g, _, none⟩) hg).trans c1
      have d2 : wr.cell? ⟨g, o + k * 3 + 2, none⟩ = some (.int .i64 ts[k].place) := (hbel.out.cell (p := ⟨g, _, none⟩) hg).trans c2
      clear c0 c1 c2
      have hk0 : (0 : Int) ≤ (k : Int) := Int.natCast_nonneg _
      have hk1 : (k : Int) < (ts.length : Int) := by omega
      have ag : u3.ownBlock ≠ some g := fun e => by have := (hown.out.lt g e).1; omega
      have hsz := hbel.out.size
      have hsn : rowCells (ts.take (k + 1)) = rowCells (ts.take k) ++ tokCells ts[k] := by rw [List.take_succ_eq_append_getElem hlt, rowCells_snoc]
      have HSN := Lib.hid hsn
      clear hsn
      have h63 : k + 1 ≤ maxLen := by unfold maxLen; omega
      have h47 : (k + 1) * 32 ≤ 140737488355328 := by omega
      go_wp2_with fail
      go_region_held3 (fun w' => w'.cell? ⟨g, o + k * 3, none⟩ = some (.int .i64 ts[k].kind) ∧ w'.cell? ⟨g, o + k * 3 + 1, none⟩ = some (.string ⟨ts[k].text.toArray⟩) ∧ w'.cell? ⟨g, o + k * 3 + 2, none⟩ = some (.int .i64 ts[k].place))
        (first
          | go_keep
          | (go_split_ands
             refine ⟨?_, ?_, ?_⟩
             · (rw [hgrow.cell_far _ (by simp; omega) (Ne.symm ag)]; assumption)
             · (rw [hgrow.cell_far _ (by simp; omega) (Ne.symm ag)]; assumption)
             · (rw [hgrow.cell_far _ (by simp; omega) (Ne.symm ag)]; assumption)))
        ((refine step_append_lies _ (by rfl) _ _ _ (by rfl) w.heap.size 54 i0 _ 3 32 Tryd.underlying27 hi hz0 hz1 hz2 rfl (by omega) u3 k (rowCells (ts.take k)) (by rfl) ((hown.out.alloc _).drew)
            ⟨wr.heap.size, 0, none⟩ 1 1 (tokCells ts[k]) (by rfl) (by rfl) (World.news_of_block (cs := #[.int .i64 ts[k].kind, .string ⟨ts[k].text.toArray⟩, .int .i64 ts[k].place]) (t := 54) (fr := (0, 0)) (heap_alloc_new wr _)) (tok_one _)
            (by omega) h63 h47 (by simp; omega) (wr.heap.size + 1) (by simp) ?_; intro gg cap2 w1 hown1 hgrow hat hlt1))
      have HB1 : Hid (Below w.heap.size w w1) := Lib.hid (((hbel.out.alloc hsz _).drew).grown hgrow (by simp; omega) (fun j hj => (hown.out.lt j hj).1))
      have HO1 := Lib.hid hown1
      clear hown1 hgrow hat hlt1
      go_wp2_with fail
      go_roundw
      case rel => exact ⟨k + 1, by omega, by go_num, Lib.hid (by rw [HSN.out]; exact HO1.out), HB1⟩
      case measure => simp [intOf]; omega
    · obtain rfl : k = ts.length := by omega
      go_wp2_with fail
      go_ret
      exact ⟨_, rfl, by rw [List.take_length] at hown; exact hown.out, hbel.out⟩

theorem own_slice {w : World} {base : Nat} {e : TypeId} {size : Nat} {v : Value} {n : Nat} {xs : List Value} (h : w.ownsRow base e size v n xs) : ∃ A c, v = .slice A n c := by
  rcases h.2 with ⟨rfl, rfl⟩ | ⟨g, cap, cur, rfl, _⟩
  · exact ⟨_, _, rfl⟩
  · exact ⟨_, _, rfl⟩
/-- 'of', with the length as it stands, and what is made as tokens that lie in memory -/
theorem of_at (A : Option Addr) (n cap : Nat) (ts : List Tok) (w : World) (hn : ts.length = n) (hl : n ≤ 1000000) (hin : TokIn w A ts) :
    Calls Tryd.prog 22 #[.slice A n cap] w fun e w' => ∃ A' c', e = .returned (.slice A' n c') ∧ TokIn w' A' ts ∧ Below w.heap.size w w' := by
  subst hn
  refine (of_any A cap ts w hl hin).mono ?_
  rintro e w' ⟨v, rfl, ho, hb⟩
  obtain ⟨A', c', rfl⟩ := own_slice ho
  exact ⟨A', c', rfl, tokIn_own ho, hb⟩
/-- a part of tokens that lie in memory -/
theorem TokIn.head {w : World} {A : Option Addr} {ts : List Tok} (h : TokIn w A ts) (k : Nat) : TokIn w A (ts.take k) := by
  intro hp
  have hp2 : 0 < ts.length := by rw [List.length_take] at hp; omega
  obtain ⟨g, o, hA, hg, hc⟩ := h hp2
  refine ⟨g, o, hA, hg, fun j hj => ?_⟩
  have hj2 : j < ts.length := by rw [List.length_take] at hj; omega
  have := hc j hj2
  rw [List.getElem_take]
  exact this
theorem TokIn.tail {w : World} {g o : Nat} {ts : List Tok} (h : TokIn w (some ⟨g, o, none⟩) ts) (k : Nat) : TokIn w (some ⟨g, o + k * 3, none⟩) (ts.drop k) := by
  intro hp
  rw [List.length_drop] at hp
  obtain ⟨g', o', hA, hg, hc⟩ := h (by omega)
  injection hA with hA
  injection hA with h1 h2
  subst h1 h2
  refine ⟨g, o + k * 3, rfl, hg, fun j hj => ?_⟩
  rw [List.length_drop] at hj
  have := hc (k + j) (by omega)
  rw [List.getElem_drop]
  rw [show o + k * 3 + j * 3 = o + (k + j) * 3 by omega]
  exact this

/-- the same tokens, with their places, or without -/
def SameToks (at_ : Bool) (ts us : List Tok) : Prop := ts.length = us.length ∧ ∀ j (h : j < ts.length) (h' : j < us.length), us[j].kind = ts[j].kind ∧ us[j].text = ts[j].text ∧ (at_ = true → us[j].place = ts[j].place)
theorem SameToks.refl (at_ : Bool) (ts : List Tok) : SameToks at_ ts ts := ⟨rfl, fun _ _ _ => ⟨rfl, rfl, fun _ => rfl⟩⟩
set_option maxRecDepth 100000 in
set_option maxHeartbeats 1600000 in
theorem same_yes (A B : Option Addr) (ca cb : Nat) (ts us : List Tok) (at_ : Bool) (w : World) (hn : ts.length ≤ 1000000) (ha : TokIn w A ts) (hb : TokIn w B us) (h : SameToks at_ ts us) :
    Calls Tryd.prog 21 #[.slice A ts.length ca, .slice B us.length cb, .bool at_] w fun e w' => e = .returned (.bool true) ∧ Below w.heap.size w w' := by
  obtain ⟨hlen, hsame⟩ := h
  have HA := Lib.hid ha
  have HB := Lib.hid hb
  have HS := Lib.hid hsame
  rw [← hlen]
  have HL := Lib.hid hlen
  clear ha hb hsame hlen
  go_enter Tryd.func21, Tryd.ntmps21
  go_wp2_with fail
  go_loopw [7] (fun i wr => ∃ k : Nat, k ≤ ts.length ∧ i = .int .i64 k ∧ Hid (Below w.heap.size w wr)) (fun i _ => ts.length - (intOf i).toNat)
  case atStart => exact ⟨0, Nat.zero_le _, rfl, Lib.hid (Below.refl _ _)⟩
  case round =>
    obtain ⟨k, hk, rfl, hbel⟩ := hrel
    by_cases hlt : k < ts.length
    · have hlt2 : k < us.length := by rw [← HL.out]; exact hlt
      obtain ⟨g, o, rfl, hg, hc⟩ := HA.out (by omega)
      obtain ⟨g2, o2, rfl, hg2, hc2⟩ := HB.out (by omega)
      obtain ⟨c0, c1, c2⟩ := hc k hlt
      obtain ⟨e0, e1, e2⟩ := hc2 k hlt2
      obtain ⟨s0, s1, s2⟩ := HS.out k hlt hlt2
      clear hc hc2
      rw [s0] at e0
      rw [s1] at e1
      have d0 : wr.cell? ⟨g, o + k * 3, none⟩ = some (.int .i64 ts[k].kind) := (hbel.out.cell (p := ⟨g, _, none⟩) hg).trans c0
      have d1 : wr.cell? ⟨g, o + k * 3 + 1, none⟩ = some (.string ⟨ts[k].text.toArray⟩) := (hbel.out.cell (p := ⟨g, _, none⟩) hg).trans c1
      have d2 : wr.cell? ⟨g, o + k * 3 + 2, none⟩ = some (.int .i64 ts[k].place) := (hbel.out.cell (p := ⟨g, _, none⟩) hg).trans c2
      have f0 : wr.cell? ⟨g2, o2 + k * 3, none⟩ = some (.int .i64 ts[k].kind) := (hbel.out.cell (p := ⟨g2, _, none⟩) hg2).trans e0
      have f1 : wr.cell? ⟨g2, o2 + k * 3 + 1, none⟩ = some (.string ⟨ts[k].text.toArray⟩) := (hbel.out.cell (p := ⟨g2, _, none⟩) hg2).trans e1
      have hk0 : (0 : Int) ≤ (k : Int) := Int.natCast_nonneg _
      have hk1 : (k : Int) < (ts.length : Int) := by omega
      clear c0 c1 c2 e0 e1 s0 s1 HS
      cases at_
      · clear e2 s2
        go_wp2_with fail
        go_quiet (fail)
        go_wp2_with fail
        go_roundw
        case rel => exact ⟨k + 1, by omega, by go_num, Lib.hid (below_drewN hbel.out _)⟩
        case measure => simp [intOf]; omega
      · rw [s2 rfl] at e2
        have f2 : wr.cell? ⟨g2, o2 + k * 3 + 2, none⟩ = some (.int .i64 ts[k].place) := (hbel.out.cell (p := ⟨g2, _, none⟩) hg2).trans e2
        clear e2 s2
        go_wp2_with fail
        go_quiet (fail)
        go_wp2_with fail
        go_roundw
        case rel => exact ⟨k + 1, by omega, by go_num, Lib.hid (below_drewN hbel.out _)⟩
        case measure => simp [intOf]; omega
    · go_wp2_with fail
      go_ret
      exact ⟨rfl, hbel.out⟩
theorem same_at (A B : Option Addr) (n ca cb : Nat) (ts us : List Tok) (at_ : Bool) (w : World) (h1 : ts.length = n) (h2 : us.length = n) (hn : n ≤ 1000000) (ha : TokIn w A ts) (hb : TokIn w B us) (h : SameToks at_ ts us) :
    Calls Tryd.prog 21 #[.slice A n ca, .slice B n cb, .bool at_] w fun e w' => e = .returned (.bool true) ∧ Below w.heap.size w w' := by
  have := same_yes A B ca cb ts us at_ w (by omega) ha hb h
  rw [h1, h2] at this
  exact this
end Go.Proofs.YtcgdeoldgnjdeaaDoor
