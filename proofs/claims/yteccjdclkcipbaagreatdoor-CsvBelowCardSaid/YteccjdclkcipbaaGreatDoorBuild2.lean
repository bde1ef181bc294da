/-
  strings.Builder's WriteByte beside a block that isn't the builder's: that stays as it is.
-/
import Derived.Test.YteccjdclkcipbaaGreatDoorLex8
import Derived.Lib.Hide
namespace Go.Proofs.YteccjdclkcipbaaGreatDoor
open Go.RowKit

theorem copyCheck_box (B b k : Nat) (bs : List Value) (w : World) (h : Lib.IsBuilder 42 5 B b bs w) (hk : k ≠ b) :
    Calls Tryz.prog 29 #[.pointer (some ⟨b, 0, none⟩)] w fun e w' => e = .returned (.tuple #[]) ∧ (Lib.BuilderAt 42 5 B b (.pointer (some ⟨b, 0, none⟩)) bs w' ∧ Below B w w' ∧ w'.heap[k]? = w.heap[k]? ∧ w'.cell? ⟨b, 1, none⟩ = w.cell? ⟨b, 1, none⟩) := by
  rcases h with h | h
  · refine (copyCheck_fresh b w h.cell0 h.shape h.frozen0).mono ?_
    rintro e w' ⟨rfl, rfl⟩
    exact ⟨rfl, h.used _, (Below.refl B w).setCell (p := ⟨b, 0, none⟩) h.1 _, Below.heap_setCell w ⟨b, 0, none⟩ _ k hk, World.cell?_setCell_other w ⟨b, 0, none⟩ ⟨b, 1, none⟩ _ (by intro e; injection e with _ e; cases e)⟩
  · refine (copyCheck_used b w h.cell0).mono ?_
    rintro e w' ⟨rfl, rfl⟩
    exact ⟨rfl, h, Below.refl B _, rfl, rfl⟩

set_option maxHeartbeats 2000000 in
theorem writeByte_box (B b k : Nat) (l : Bs) (c : UInt8) (w : World) (hkb : k ≠ b) (hks : k < w.heap.size) (hkv : Hid (∀ v, w.cell? ⟨b, 1, none⟩ = some v → v.ownBlock ≠ some k)) (h : Lib.IsBuilder 42 5 B b (Lib.byteCells l) w) (hlen : l.length + 1 ≤ 140737488355328) (hBw : B ≤ w.heap.size) :
    Calls Tryz.prog 15 #[.pointer (some ⟨b, 0, none⟩), .int .u8 (c.toNat : Int)] w fun e w' => e = .returned .nilIface ∧ (Lib.IsBuilder 42 5 B b (Lib.byteCells (l ++ [c])) w' ∧ Below B w w' ∧ w'.heap[k]? = w.heap[k]?) := by
  have hlen2 : (Lib.byteCells l).length = l.length := Lib.byteCells_length l
  have e1 : Lib.byteCells (l ++ [c]) = Lib.byteCells l ++ [.int .u8 (c.toNat : Int)] := by simp [Lib.byteCells]
  have hlen : (Lib.byteCells l).length + 1 ≤ 140737488355328 := by omega
  have E1 := Lib.hid e1
  clear hlen2 e1
  generalize Lib.byteCells l = bs at *
  obtain ⟨i0, hi, hz0, hz1, hz2⟩ := info_parts infoByte
  go_enter Tryz.func15, Tryz.ntmps15
  go_wp2_with (go_at_call 29; refine (copyCheck_box B b k bs _ h hkb).mono ?_)
  rintro e w1 ⟨rfl, h1, hb1, hk1, hc1⟩
  have HK1 := Lib.hid hk1
  have HC1 := Lib.hid hc1
  clear hk1 hc1
  obtain ⟨hB, v, hbk, hown, hne⟩ := h1
  have c0 : w1.cell? ⟨b, 0, none⟩ = some (.pointer (some ⟨b, 0, none⟩)) := by rw [Lib.cell_of_heap hbk]; rfl
  have c1 : w1.cell? ⟨b, 1, none⟩ = some v := by rw [Lib.cell_of_heap hbk]; rfl
  go_wp2_with (at_builtin; refine wpList_append_own _ rfl _ _ 40 rfl B 5 i0 (.int .u8 0) 1 1 Tryz.underlying40 hi hz0 hz1 hz2 rfl (by decide) _ _ _ rfl (hown.alloc _) ⟨w1.heap.size, 0, none⟩ 1 1 [.int .u8 (c.toNat : Int)] rfl rfl ?c1 ?c2 ?c3 ?c4 ?c5 ?_)
  case c1 =>
    intro j u hj
    match j, hj with
    | 0, hj => simp at hj; subst hj; simp [Addr.add]
  case c2 => intro u hu; simp at hu; subst hu; rfl
  case c3 => unfold maxLen; omega
  case c4 => omega
  case c5 => have := hb1.size; simp; omega
  intro v' w2 hown' hgrow _
  have hlt : b < w1.heap.size := by
    rcases Nat.lt_or_ge b w1.heap.size with h' | h'
    · exact h'
    · simp [Array.getElem?_eq_none h'] at hbk
  have hb2 : w2.heap[b]? = some (.cells #[.pointer (some ⟨b, 0, none⟩), v] 42 (0, 0)) := by
    rw [hgrow.block b (by simp; omega) (fun e => hne e.symm), Lib.alloc_old w1 _ b hlt]
    exact hbk
  have d0 : w2.cell? ⟨b, 0, none⟩ = some (.pointer (some ⟨b, 0, none⟩)) := by rw [Lib.cell_of_heap hb2]; rfl
  have d1 : w2.cell? ⟨b, 1, none⟩ = some v := by rw [Lib.cell_of_heap hb2]; rfl
  have f1 : w2.frozen? ⟨b, 1, none⟩ = false := Lib.frozen_of_heap hb2 1
  obtain ⟨g, cap, rfl⟩ : ∃ g cap, v' = .slice (some ⟨g, 0, none⟩) (bs.length + 1) cap := by
    rcases hown'.2 with ⟨_, h0⟩ | ⟨g, cap, cur, hv, _⟩
    · omega
    · exact ⟨g, cap, hv⟩
  go_wp2
  go_ret
  refine ⟨rfl, ?_, ?_, ?_⟩
  · rw [E1.out]
    exact .inr (Lib.BuilderAt.put (T := 42) (e := 5) hB hb2 (bs' := bs ++ [.int .u8 (c.toNat : Int)]) (by simpa using hown') (by decide))
  · exact ((hb1.alloc (by have := hb1.size; omega) _).grown hgrow (by have := hb1.size; simp; omega) (fun k hk => (hown.lt k hk).1)).setCell (p := ⟨b, 1, none⟩) hB _
  · have hvk : v.ownBlock ≠ some k := hkv.out v (by rw [← HC1.out]; exact c1)
    have hk1s : k < w1.heap.size := Nat.lt_of_lt_of_le hks hb1.size
    rw [Below.heap_setCell _ ⟨b, 1, none⟩ _ k hkb, hgrow.block k (by simp; omega) (fun e => hvk e.symm), Below.heap_alloc w1 _ k hk1s]
    exact HK1.out
theorem IsBuilder.notBuf {B b : Nat} {bs : List Value} {w w' : World} (h : Lib.IsBuilder 42 5 B b bs w) (hb : Below w.heap.size w w') : ∀ v, w'.cell? ⟨b, 1, none⟩ = some v → v.ownBlock ≠ some w.heap.size := by
  have key : ∀ p, Lib.BuilderAt 42 5 B b p bs w → ∀ v, w'.cell? ⟨b, 1, none⟩ = some v → v.ownBlock ≠ some w.heap.size := by
    rintro p ⟨_, u, hbk, hown, _⟩ v hv hk
    have hlt : b < w.heap.size := (Array.getElem?_eq_some_iff.1 hbk).1
    have h1 : w.cell? ⟨b, 1, none⟩ = some u := by rw [Lib.cell_of_heap hbk]; rfl
    rw [hb.cell (p := ⟨b, 1, none⟩) hlt, h1] at hv
    injection hv with hv
    subst hv
    have := (hown.lt _ hk).2
    omega
  rcases h with h | h
  · exact key _ h
  · exact key _ h
theorem IsBuilder.next {B b : Nat} {bs : List Value} {w w' : World} (h : Lib.IsBuilder 42 5 B b bs w) (hb : Below w.heap.size w w') : Lib.IsBuilder 42 5 B b bs w' := by
  have key : ∀ p, Lib.BuilderAt 42 5 B b p bs w → Lib.BuilderAt 42 5 B b p bs w' := by
    rintro p ⟨h1, u, hbk, hown, h2⟩
    have hlt : b < w.heap.size := (Array.getElem?_eq_some_iff.1 hbk).1
    exact ⟨h1, u, (hb.block b hlt).trans hbk, own_next hb hown, h2⟩
  rcases h with h | h
  · exact .inl (key _ h)
  · exact .inr (key _ h)
end Go.Proofs.YteccjdclkcipbaaGreatDoor
