/-
  num.Parse: what it returns.
-/
import Derived.Test.YtcgdeoldgnjdeaaDoorNum4
import Derived.Test.YtcgdeoldgnjdeaaDoorNum8
namespace Go.Proofs.YtcgdeoldgnjdeaaDoor
open Go.RowKit

def finNum (x : Bool × List Nat × Nat × Bool × Nat) : Option (Int × Int) := pNear x.1 (natOf x.2.1) ((if x.2.2.2.1 then -(x.2.2.2.2 : Int) else x.2.2.2.2) - (x.2.2.1 : Int))
/-- the number that a text tells -/
def pParse (l : Bs) : Option (Int × Int) := if 255 < l.length then none else ((rd0.all l).bind Rd.fin).bind finNum
/-- what a reader holds behind so many bytes -/
structure Rd.Upto (r : Rd) (n : Nat) : Prop where
  st : r.st ≤ 7
  ds : r.ds.length ≤ n
  behind : r.behind ≤ n
  pow : r.pow ≤ 1000009
  dig : Dig r.ds
theorem upto0 : Rd.Upto rd0 0 := ⟨by decide, by decide, by decide, by decide, fun _ h => by cases h⟩
theorem Rd.Upto.take {r r' : Rd} {n c : Nat} (h : r.Upto n) (ht : r.take c = some r') : r'.Upto (n + 1) := by
  obtain ⟨h1, h2, h3, h4, h5⟩ := h
  unfold Rd.take at ht
  by_cases hd : 48 ≤ c ∧ c ≤ 57
  · rw [if_pos hd] at ht
    injection ht with ht
    subst ht
    unfold Rd.digit
    split
    · exact ⟨by simp, by simp; omega, by simp; omega, h4, h5.append (fun d hx => by simp at hx; omega)⟩
    · split
      · exact ⟨by simp, by simp; omega, by simp; omega, h4, h5.append (fun d hx => by simp at hx; omega)⟩
      · refine ⟨by simp, by simp; omega, by simp; omega, ?_, h5⟩
        show powStep r.pow (c - 48) ≤ 1000009
        unfold powStep
        split <;> omega
  rw [if_neg hd] at ht
  split at ht
  · injection ht with ht; subst ht; exact ⟨by simp, by simp; omega, by simp; omega, h4, h5⟩
  split at ht
  · injection ht with ht; subst ht; exact ⟨by simp, by simp; omega, by simp; omega, h4, h5⟩
  split at ht
  · injection ht with ht; subst ht; exact ⟨by simp, by simp; omega, by simp; omega, h4, h5⟩
  split at ht
  · injection ht with ht; subst ht; exact ⟨by simp, by simp; omega, by simp; omega, h4, h5⟩
  cases ht
theorem Rd.Upto.fit {r : Rd} {n : Nat} (h : r.Upto n) (hn : n ≤ 1000) : r.Fit := ⟨h.st, Nat.le_trans h.ds hn, Nat.le_trans h.behind hn, by have := h.pow; omega⟩
theorem take_big (r : Rd) (c : Nat) (h : 128 ≤ c) : r.take c = none := by
  unfold Rd.take
  rw [if_neg (by omega), if_neg (by omega), if_neg (by omega), if_neg (by omega), if_neg (by omega)]
theorem all_drop (r : Rd) (l : Bs) (k : Nat) (h : k < l.length) : r.all (l.drop k) = match r.take l[k].toNat with | some r' => r'.all (l.drop (k + 1)) | none => none := by
  rw [List.drop_eq_getElem_cons h]
  rfl
theorem own_iter {w : World} {base : Nat} {e : TypeId} {size : Nat} {v : Value} {n : Nat} {xs : List Value} (h : w.ownsRow base e size v n xs) {k : Nat} (hk : k < base) (s : ByteArray) (p : Nat) : (w.iterAt k s p).ownsRow base e size v n xs := by
  obtain ⟨h1, h2⟩ := h
  refine ⟨h1, ?_⟩
  rcases h2 with h2 | ⟨g, cap, cur, hv, hg, hh, r⟩
  · exact .inl h2
  · exact .inr ⟨g, cap, cur, hv, hg, (Lib.iterAt_other w k g s p (by omega)).trans hh, r⟩
theorem Lies.iterAt {w : World} {g : Nat} {t : TypeId} {cs : Array Value} (h : Lies w g t cs) {k : Nat} (hk : g ≠ k) (s : ByteArray) (p : Nat) : Lies (w.iterAt k s p) g t cs := (Lib.iterAt_other w k g s p hk).trans h
theorem RdIn.iterAt {w : World} {b base : Nat} {r : Rd} (h : RdIn w b base r) {k : Nat} (h1 : b ≠ k) (h2 : k < base) (s : ByteArray) (p : Nat) : RdIn (w.iterAt k s p) b base r := by
  obtain ⟨v, a1, a2⟩ := h
  exact ⟨v, a1.iterAt h1 s p, own_iter a2 h2 s p⟩
/-- where Parse stands in its loop -/
structure PIn (l : Bs) (w : World) (pos : Nat) (r : Rd) (wr : World) : Prop where
  le : pos ≤ l.length
  all : rd0.all l = r.all (l.drop pos)
  upto : r.Upto pos
  rd : RdIn wr (w.heap.size + 1) (w.heap.size + 3) r
  it : wr.heap[w.heap.size + 2]? = some (.stringIter ⟨l.toArray⟩ pos)
  res : Lies wr w.heap.size 39 #[.int .i64 0, .int .i64 0]
  bel : Below w.heap.size w wr
  big : w.heap.size + 3 ≤ wr.heap.size
theorem PIn.next {l : Bs} {w wr w' : World} {pos : Nat} {r r' : Rd} (h : PIn l w pos r wr) (hp : pos < l.length) (ht : r.take l[pos].toNat = some r')
    (h1 : RdIn w' (w.heap.size + 1) (w.heap.size + 3) r') (h2 : Kept (w.heap.size + 1) (w.heap.size + 3) (wr.iterAt (w.heap.size + 2) ⟨l.toArray⟩ (pos + 1)) w') : PIn l w (pos + 1) r' w' := by
  have hb := Lib.below_iterAt h.bel (k := w.heap.size + 2) (by omega) ⟨l.toArray⟩ (pos + 1)
  refine ⟨hp, ?_, h.upto.take ht, h1, ?_, ?_, hb.trans (h2.below (by omega) (by omega)), ?_⟩
  · rw [h.all, all_drop r l pos hp, ht]
  · rw [h2.block _ (by omega) (by omega)]
    exact Lib.iterAt_heap wr _ _ pos _ h.it
  · exact (h.res.iterAt (by omega) _ _).kept h2 (by omega) (by omega)
  · have := h2.size
    rw [Lib.iterAt_size] at this
    have := h.big
    omega
set_option maxRecDepth 100000 in
set_option maxHeartbeats 6400000 in
theorem parse_any (l : Bs) (w : World) (hl : l.length ≤ 1000000) :
    Calls Tryd.prog 55 #[.string ⟨l.toArray⟩] w fun e w' => e = .returned (numOut (pParse l)) ∧ Below w.heap.size w w' := by
  obtain ⟨out, hout⟩ : ∃ out, numOut (pParse l) = out := ⟨_, rfl⟩
  rw [hout]
  have HOut := Lib.hid hout
  clear hout
  by_cases h255 : 255 < l.length
  · have hN : Hid (pParse l = none) := Lib.hid (if_pos h255)
    go_enter Tryd.func55, Tryd.ntmps55
    go_wp2_with fail
    refine bodyPost_ret (v := .tuple #[.agg #[.int .i64 0, .int .i64 0], .bool false]) (by simp [results, Tryd.results55, go_sem]) rfl ?_
    exact ⟨by rw [← HOut.out, hN.out]; rfl, (Below.refl _ _).alloc (Nat.le_refl _) _⟩
  have HP : Hid (pParse l = ((rd0.all l).bind Rd.fin).bind finNum) := Lib.hid (if_neg h255)
  have HS : Hid ((ByteArray.mk l.toArray).size = l.length) := Lib.hid (by simp [ByteArray.size])
  have H0 : ∀ W : World, W = (((w.alloc (.cells #[.int .i64 0, .int .i64 0] 39)).alloc (.cells (rdCells rd0 (.slice none 0 0)) 115)).iter ⟨l.toArray⟩ 0) → Hid (PIn l w 0 rd0 W) := by
    intro W hW
    refine Lib.hid ⟨Nat.zero_le _, rfl, upto0, ⟨.slice none 0 0, ?_, ⟨rfl, .inl ⟨rfl, rfl⟩⟩⟩, ?_, ?_, ?_, ?_⟩
    · rw [hW]
      unfold World.iter
      have := (Lies.new (w.alloc (.cells #[.int .i64 0, .int .i64 0] 39)) 115 (rdCells rd0 (.slice none 0 0))).alloc (.stringIter ⟨l.toArray⟩ 0)
      simpa using this
    · rw [hW]
      have := World.iter_heap ((w.alloc (.cells #[.int .i64 0, .int .i64 0] 39)).alloc (.cells (rdCells rd0 (.slice none 0 0)) 115)) ⟨l.toArray⟩ 0
      simpa using this
    · rw [hW]
      exact ((Lies.new w 39 #[.int .i64 0, .int .i64 0]).alloc _).alloc _
    · rw [hW]
      exact (((Below.refl _ w).alloc (Nat.le_refl _) _).alloc (by simp) _).alloc (by simp; omega) _
    · rw [hW]
      unfold World.iter
      simp
  go_enter Tryd.func55, Tryd.ntmps55
  go_wp2_with fail
  go_loopw [6] (fun _ wr => ∃ (pos : Nat) (r : Rd), Hid (PIn l w pos r wr)) (fun _ wr => l.length - wr.iterPos (w.heap.size + 2))
  case atStart => exact ⟨0, rd0, H0 _ (by first | rfl | simp [rdCells, rd0, World.iter])⟩
  case round =>
    obtain ⟨pos, r, hI⟩ := hrel
    clear H0
    have hit := hI.out.it
    by_cases hp : pos < l.length
    · have hps : pos < (ByteArray.mk l.toArray).size := by rw [HS.out]; exact hp
      have HSz : Hid (w.heap.size + 3 ≤ wr.heap.size) := Lib.hid hI.out.big
      have hfit := hI.out.upto.fit (by have := hI.out.le; omega)
      have HF := Lib.hid hfit
      by_cases ha : l[pos].toNat < 128
      · have hg : (ByteArray.mk l.toArray)[pos] = l[pos] := S_get l pos hps
        have hnx : ∀ ty, (Instr.next (.pointer (some ⟨w.heap.size + 2, 0, none⟩)) true ty).run Tryd.prog wr = .ok (.tuple #[.bool true, .int .i64 pos, .int .i32 (l[pos].toNat : Int)]) (wr.iterAt (w.heap.size + 2) ⟨l.toArray⟩ (pos + 1)) := by
          intro ty
          have := Lib.run_next_ascii_at (P := Tryd.prog) wr (w.heap.size + 2) ⟨l.toArray⟩ pos ty hit hps (by rw [hg]; exact ha)
          rw [hg] at this
          exact this
        have hrd := Lib.hid (hI.out.rd.iterAt (k := w.heap.size + 2) (by omega) (by omega) ⟨l.toArray⟩ (pos + 1))
        have hsz2 : Hid (w.heap.size + 3 ≤ (wr.iterAt (w.heap.size + 2) ⟨l.toArray⟩ (pos + 1)).heap.size) := Lib.hid (by rw [Lib.iterAt_size]; exact HSz.out)
        have HIT : Hid (wr.heap[w.heap.size + 2]? = some (.stringIter ⟨l.toArray⟩ pos)) := Lib.hid hit
        clear hg hfit hit
        cases ht : r.take l[pos].toNat with
        | none =>
          have hall : Hid (pParse l = none) := Lib.hid (by rw [HP.out, hI.out.all, all_drop r l pos hp, ht]; rfl)
          have HRes := Lib.hid (hI.out.res.iterAt (k := w.heap.size + 2) (by omega) ⟨l.toArray⟩ (pos + 1))
          have HBel := Lib.hid (Lib.below_iterAt hI.out.bel (k := w.heap.size + 2) (by omega) ⟨l.toArray⟩ (pos + 1))
          have HTN := Lib.hid ht
          have h31 : l[pos].toNat ≤ 2147483647 := by omega
          clear ht hI
          generalize hW : wr.iterAt (w.heap.size + 2) ⟨l.toArray⟩ (pos + 1) = W at *
          clear hW
          go_wp2_with fail
          refine (take_no r _ (w.heap.size + 1) (w.heap.size + 3) _ h31 hrd.out HTN.out).mono ?_
          intro e w1 hpo
          unfold TakePost at hpo
          rw [HTN.out] at hpo
          obtain ⟨rfl, rfl⟩ := hpo
          have q0 := HRes.out.cell 0
          have q1 := HRes.out.cell 1
          have g0 := HRes.out.frozen 0
          have g1 := HRes.out.frozen 1
          simp at q0 q1
          clear hrd hsz2 hnx
          go_wp2_with fail
          refine bodyPost_ret (v := .tuple #[.agg #[.int .i64 0, .int .i64 0], .bool false]) (by simp [results, Tryd.results55, go_sem, q0, q1]) rfl ?_
          exact ⟨by rw [← HOut.out, hall.out]; rfl, (HBel.out.setCell (p := ⟨w.heap.size, 0, none⟩) (Nat.le_refl _) _).setCell (p := ⟨w.heap.size, 1, none⟩) (Nat.le_refl _) _⟩
        | some r' =>
          have HTS := Lib.hid ht
          clear ht
          go_wp2_with fail
          refine (take_yes r r' _ (w.heap.size + 1) (w.heap.size + 3) _ hrd.out (by omega) hsz2.out HF.out HTS.out).mono ?_
          intro e w1 hpo
          unfold TakePost at hpo
          rw [HTS.out] at hpo
          obtain ⟨rfl, k1, k2⟩ := hpo
          have hI2 := Lib.hid (hI.out.next hp HTS.out k1 k2)
          have hp2 : Hid (w1.iterPos (w.heap.size + 2) = pos + 1) := Lib.hid (by unfold World.iterPos; rw [hI2.out.it])
          have hp1 : Hid (wr.iterPos (w.heap.size + 2) = pos) := Lib.hid (by unfold World.iterPos; rw [HIT.out])
          clear k1 k2 hnx hI
          go_wp2_with fail
          go_roundw
          case rel => exact ⟨pos + 1, r', hI2⟩
          case measure => rw [hp2.out, hp1.out]; omega
      · have hg : (ByteArray.mk l.toArray)[pos] = l[pos] := S_get l pos hps
        have hdh := (decode_high ⟨l.toArray⟩ pos hps (by rw [hg]; omega)).1
        have hdl := decode_le ⟨l.toArray⟩ pos
        have hnx : ∀ ty, (Instr.next (.pointer (some ⟨w.heap.size + 2, 0, none⟩)) true ty).run Tryd.prog wr = .ok (.tuple #[.bool true, .int .i64 pos, .int .i32 ((Utf8.decode ⟨l.toArray⟩ pos).1 : Int)]) (wr.iterAt (w.heap.size + 2) ⟨l.toArray⟩ (pos + (Utf8.decode ⟨l.toArray⟩ pos).2)) :=
          fun ty => Lib.run_next_any_at (P := Tryd.prog) wr (w.heap.size + 2) ⟨l.toArray⟩ pos ty hit hps
        generalize (Utf8.decode ⟨l.toArray⟩ pos).1 = c at *
        generalize pos + (Utf8.decode ⟨l.toArray⟩ pos).2 = pos2 at *
        have hrd := Lib.hid (hI.out.rd.iterAt (k := w.heap.size + 2) (by omega) (by omega) ⟨l.toArray⟩ pos2)
        have HTN := Lib.hid (take_big r c hdh)
        have hall : Hid (pParse l = none) := Lib.hid (by rw [HP.out, hI.out.all, all_drop r l pos hp, take_big r _ (by omega)]; rfl)
        have HRes := Lib.hid (hI.out.res.iterAt (k := w.heap.size + 2) (by omega) ⟨l.toArray⟩ pos2)
        have HBel := Lib.hid (Lib.below_iterAt hI.out.bel (k := w.heap.size + 2) (by omega) ⟨l.toArray⟩ pos2)
        clear hg hfit hit hI hdh ha
        generalize hW : wr.iterAt (w.heap.size + 2) ⟨l.toArray⟩ pos2 = W at *
        clear hW
        go_wp2_with fail
        refine (take_no r _ (w.heap.size + 1) (w.heap.size + 3) _ hdl hrd.out HTN.out).mono ?_
        intro e w1 hpo
        unfold TakePost at hpo
        rw [HTN.out] at hpo
        obtain ⟨rfl, rfl⟩ := hpo
        have q0 := HRes.out.cell 0
        have q1 := HRes.out.cell 1
        have g0 := HRes.out.frozen 0
        have g1 := HRes.out.frozen 1
        simp at q0 q1
        clear hrd hnx
        go_wp2_with fail
        refine bodyPost_ret (v := .tuple #[.agg #[.int .i64 0, .int .i64 0], .bool false]) (by simp [results, Tryd.results55, go_sem, q0, q1]) rfl ?_
        exact ⟨by rw [← HOut.out, hall.out]; rfl, (HBel.out.setCell (p := ⟨w.heap.size, 0, none⟩) (Nat.le_refl _) _).setCell (p := ⟨w.heap.size, 1, none⟩) (Nat.le_refl _) _⟩
    · have hnx : ∀ ty, (Instr.next (.pointer (some ⟨w.heap.size + 2, 0, none⟩)) true ty).run Tryd.prog wr = .ok (.tuple #[.bool false]) wr :=
        fun ty => Lib.run_next_end_at (P := Tryd.prog) wr (w.heap.size + 2) ⟨l.toArray⟩ pos ty hit (by rw [HS.out]; exact hp)
      have hpl : pos = l.length := by have := hI.out.le; omega
      have hall : Hid (pParse l = (Rd.fin r).bind finNum) := Lib.hid (by rw [HP.out, hI.out.all, hpl, List.drop_of_length_le (Nat.le_refl _)]; rfl)
      have hup := hI.out.upto
      have hds : r.ds.length ≤ 255 := by have := hup.ds; omega
      have hbh : r.behind ≤ 255 := by have := hup.behind; omega
      have hpw := hup.pow
      have HDg := Lib.hid hup.dig
      have hst := hup.st
      obtain ⟨v, hlie, hown⟩ := hI.out.rd
      have HRes := Lib.hid hI.out.res
      have HBel := Lib.hid hI.out.bel
      have HBig : Hid (w.heap.size + 3 ≤ wr.heap.size) := Lib.hid hI.out.big
      clear hup hI hpl hit
      have c0 := hlie.cell 0
      have c1 := hlie.cell 1
      have c2 := hlie.cell 2
      have c3 := hlie.cell 3
      have c4 := hlie.cell 4
      have c5 := hlie.cell 5
      have f5 := hlie.frozen 5
      have HLie := Lib.hid hlie
      have q0 := HRes.out.cell 0
      have q1 := HRes.out.cell 1
      have g0 := HRes.out.frozen 0
      have g1 := HRes.out.frozen 1
      simp [rdCells] at c0 c1 c2 c3 c4 c5
      simp at q0 q1
      obtain ⟨st, ng, np, ds, bh, pw⟩ := r
      dsimp only at *
      by_cases hfin : st = 2 ∨ st = 4 ∨ st = 7
      · have hF : Hid (pParse l = pNear ng (natOf ds) ((if np then -(pw : Int) else pw) - (bh : Int))) := Lib.hid (by
          rw [hall.out]
          unfold Rd.fin
          rw [if_pos hfin]
          rfl)
        -- the digits
        obtain ⟨A, cap, rfl, hsl, hA⟩ : ∃ A cap, v = .slice A ds.length cap ∧ BSl wr (w.heap.size + 3) A cap ds ∧ (∀ a, A = some a → a.block < wr.heap.size ∧ w.heap.size + 3 ≤ a.block) := by
          rcases hown.2 with ⟨rfl, h0⟩ | ⟨g, cap, cur, rfl, hg, hh, r2⟩
          · rw [h0]
            exact ⟨none, 0, rfl, ⟨by omega, by decide, fun h => by omega⟩, fun a h => by cases h⟩
          · have hlt : g < wr.heap.size := (Array.getElem?_eq_some_iff.1 hh).1
            rcases Nat.eq_zero_or_pos ds.length with h0 | h0
            · exact ⟨_, cap, rfl, ⟨by omega, by have := r2.2.1; omega, fun h => by omega⟩, fun a h => by injection h with h; subst h; exact ⟨hlt, hg⟩⟩
            · obtain ⟨g', cap', e1, e2, -⟩ := own_sl hown (Nat.le_refl _) h0
              exact ⟨some ⟨g', 0, none⟩, cap', e1, e2, fun a h => by injection h with h; subst h; injection e1 with e1 _ _; injection e1 with e1; injection e1 with e1 _ _; subst e1; exact ⟨hlt, hg⟩⟩
        have HSl := Lib.hid hsl
        have HA := Lib.hid hA
        clear hown hsl hA hall
        have hnext : ∀ (W : World) (p : Int), Hid (-1000009 ≤ p ∧ p ≤ 1000009) → Hid (BSl W (w.heap.size + 3) A cap ds) → Hid (Below w.heap.size w W) → Hid (wr.heap.size ≤ W.heap.size) → Calls Tryd.prog 102 #[.bool ng, .slice A ds.length cap, .int .i64 (p - (bh : Int))] W fun x w' => x = .returned (numOut (pNear ng (natOf ds) (p - (bh : Int)))) ∧ Below (w.heap.size + 3) W w' := by
          intro W p hp hs hb hz
          have h1 := hp.out
          have h2 := hz.out
          have h3 := HBig.out
          exact round_any ng A cap (w.heap.size + 3) ds _ W hs.out (by omega) (fun a h => by have := (HA.out a h).1; omega) HDg.out (by omega) (by omega) (by omega)
        have HNx := Lib.hid hnext
        clear hnext
        cases np
        · rcases hfin with rfl | rfl | rfl
          all_goals
            go_wp2_with fail
            refine (HNx.out _ (pw : Int) (Lib.hid (by omega)) HSl HBel (Lib.hid (Nat.le_refl _))).mono ?_
            rintro x w2 ⟨rfl, hb2⟩
            have hE : Hid (out = numOut (pNear ng (natOf ds) ((pw : Int) - (bh : Int)))) := Lib.hid (by rw [← HOut.out, hF.out]; rfl)
            have HRes2 : Hid (Lies w2 w.heap.size 39 #[.int .i64 0, .int .i64 0]) := Lib.hid ((hb2.block _ (by omega)).trans HRes.out)
            have HBel2 : Hid (Below w.heap.size w w2) := Lib.hid (HBel.out.trans (hb2.mono (by omega)))
            have r0 := HRes2.out.cell 0
            have r1 := HRes2.out.cell 1
            have s0 := HRes2.out.frozen 0
            have s1 := HRes2.out.frozen 1
            simp at r0 r1
            clear hb2
            cases hpn : pNear ng (natOf ds) ((pw : Int) - (bh : Int)) with
            | none =>
              rw [hpn] at hE
              unfold numOut
              go_wp2_with fail
              refine bodyPost_ret (v := .tuple #[.agg #[.int .i64 0, .int .i64 0], .bool false]) (by simp [results, Tryd.results55, go_sem, r0, r1]) rfl ?_
              exact ⟨by rw [hE.out]; rfl, (HBel2.out.setCell (p := ⟨w.heap.size, 0, none⟩) (Nat.le_refl _) _).setCell (p := ⟨w.heap.size, 1, none⟩) (Nat.le_refl _) _⟩
            | some q =>
              obtain ⟨m, g⟩ := q
              rw [hpn] at hE
              unfold numOut
              go_wp2_with fail
              refine bodyPost_ret (v := .tuple #[.agg #[.int .i64 m, .int .i64 g], .bool true]) (by simp [results, Tryd.results55, go_sem, r0, r1]) rfl ?_
              exact ⟨by rw [hE.out]; rfl, (HBel2.out.setCell (p := ⟨w.heap.size, 0, none⟩) (Nat.le_refl _) _).setCell (p := ⟨w.heap.size, 1, none⟩) (Nat.le_refl _) _⟩
        · have HSl2 : Hid (BSl (wr.setCell ⟨w.heap.size + 1, 5, none⟩ (.int .i64 (-(pw : Int)))) (w.heap.size + 3) A cap ds) := Lib.hid (by
            obtain ⟨a1, a2, a3⟩ := HSl.out
            refine ⟨a1, a2, fun h => ?_⟩
            obtain ⟨b, off, e1, e2, e3, e4⟩ := a3 h
            exact ⟨b, off, e1, e2, by simpa using e3, fun j hj => ⟨(World.cell?_setCell_other _ _ _ _ (by intro e5; injection e5 with e6; omega)).trans (e4 j hj).1, by simpa using (e4 j hj).2⟩⟩)
          have HBel1 : Hid (Below w.heap.size w (wr.setCell ⟨w.heap.size + 1, 5, none⟩ (.int .i64 (-(pw : Int))))) := Lib.hid (HBel.out.setCell (p := ⟨w.heap.size + 1, 5, none⟩) (by show w.heap.size ≤ w.heap.size + 1; omega) _)
          have HRes1 : Hid (Lies (wr.setCell ⟨w.heap.size + 1, 5, none⟩ (.int .i64 (-(pw : Int)))) w.heap.size 39 #[.int .i64 0, .int .i64 0]) := Lib.hid ((Below.heap_setCell _ _ _ _ (by show w.heap.size ≠ w.heap.size + 1; omega)).trans HRes.out)
          rcases hfin with rfl | rfl | rfl
          all_goals
            go_wp2_with fail
            refine (HNx.out _ (-(pw : Int)) (Lib.hid (by omega)) HSl2 HBel1 (Lib.hid (by simp))).mono ?_
            rintro x w2 ⟨rfl, hb2⟩
            have hE : Hid (out = numOut (pNear ng (natOf ds) (-(pw : Int) - (bh : Int)))) := Lib.hid (by rw [← HOut.out, hF.out]; rfl)
            have HRes2 : Hid (Lies w2 w.heap.size 39 #[.int .i64 0, .int .i64 0]) := Lib.hid ((hb2.block _ (by omega)).trans HRes1.out)
            have HBel2 : Hid (Below w.heap.size w w2) := Lib.hid (HBel1.out.trans (hb2.mono (by omega)))
            have r0 := HRes2.out.cell 0
            have r1 := HRes2.out.cell 1
            have s0 := HRes2.out.frozen 0
            have s1 := HRes2.out.frozen 1
            simp at r0 r1
            clear hb2
            cases hpn : pNear ng (natOf ds) (-(pw : Int) - (bh : Int)) with
            | none =>
              rw [hpn] at hE
              unfold numOut
              go_wp2_with fail
              refine bodyPost_ret (v := .tuple #[.agg #[.int .i64 0, .int .i64 0], .bool false]) (by simp [results, Tryd.results55, go_sem, r0, r1]) rfl ?_
              exact ⟨by rw [hE.out]; rfl, (HBel2.out.setCell (p := ⟨w.heap.size, 0, none⟩) (Nat.le_refl _) _).setCell (p := ⟨w.heap.size, 1, none⟩) (Nat.le_refl _) _⟩
            | some q =>
              obtain ⟨m, g⟩ := q
              rw [hpn] at hE
              unfold numOut
              go_wp2_with fail
              refine bodyPost_ret (v := .tuple #[.agg #[.int .i64 m, .int .i64 g], .bool true]) (by simp [results, Tryd.results55, go_sem, r0, r1]) rfl ?_
              exact ⟨by rw [hE.out]; rfl, (HBel2.out.setCell (p := ⟨w.heap.size, 0, none⟩) (Nat.le_refl _) _).setCell (p := ⟨w.heap.size, 1, none⟩) (Nat.le_refl _) _⟩
      · have hN : Hid (pParse l = none) := Lib.hid (by rw [hall.out]; unfold Rd.fin; rw [if_neg hfin]; rfl)
        obtain ⟨s, hs⟩ : ∃ s : Int, (st : Int) = s := ⟨_, rfl⟩
        rw [hs] at c0
        have b2 : (s != 2) = true := by rw [bne_iff_ne]; omega
        have b4 : (s != 4) = true := by rw [bne_iff_ne]; omega
        have b7 : (s != 7) = true := by rw [bne_iff_ne]; omega
        clear hs hfin hst hall hown
        go_wp2_with fail
        refine bodyPost_ret (v := .tuple #[.agg #[.int .i64 0, .int .i64 0], .bool false]) (by simp [results, Tryd.results55, go_sem, q0, q1]) rfl ?_
        exact ⟨by rw [← HOut.out, hN.out]; rfl, (HBel.out.setCell (p := ⟨w.heap.size, 0, none⟩) (Nat.le_refl _) _).setCell (p := ⟨w.heap.size, 1, none⟩) (Nat.le_refl _) _⟩
end Go.Proofs.YtcgdeoldgnjdeaaDoor
