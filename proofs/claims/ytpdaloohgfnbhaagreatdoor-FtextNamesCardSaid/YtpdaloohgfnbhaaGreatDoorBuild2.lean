/-
  strings.Builder's WriteByte beside a block that isn't the builder's: that stays as it is.
-/
import Derived.Test.YtpdaloohgfnbhaaGreatDoorLex8
import Derived.Lib.Hide
namespace Go.Proofs.YtpdaloohgfnbhaaGreatDoor
open Go.RowKit

theorem copyCheck_box (B b k : Nat) (bs : List Value) (w : World) (h : Lib.IsBuilder 125 5 B b bs w) (hk : k ≠ b) :
    Calls Tryz.prog 123 #[.pointer (some ⟨b, 0, none⟩)] w fun e w' => e = .returned (.tuple #[]) ∧ (Lib.BuilderAt 125 5 B b (.pointer (some ⟨b, 0, none⟩)) bs w' ∧ Below B w w' ∧ w'.heap[k]? = w.heap[k]? ∧ w'.cell? ⟨b, 1, none⟩ = w.cell? ⟨b, 1, none⟩) := by
  rcases h with h | h
  · refine (copyCheck_fresh b w h.cell0 h.shape h.frozen0).mono ?_
    rintro e w' ⟨rfl, rfl⟩
    exact ⟨rfl, h.used _, (Below.refl B w).setCell (p := ⟨b, 0, none⟩) h.1 _, Below.heap_setCell w ⟨b, 0, none⟩ _ k hk, World.cell?_setCell_other w ⟨b, 0, none⟩ ⟨b, 1, none⟩ _ (by intro e; injection e with _ e; cases e)⟩
  · refine (copyCheck_used b w h.cell0).mono ?_
    rintro e w' ⟨rfl, rfl⟩
    exact ⟨rfl, h, Below.refl B _, rfl, rfl⟩

theorem IsBuilder.notBuf {B b : Nat} {bs : List Value} {w w' : World} (h : Lib.IsBuilder 125 5 B b bs w) (hb : Below w.heap.size w w') : ∀ v, w'.cell? ⟨b, 1, none⟩ = some v → v.ownBlock ≠ some w.heap.size := by
  have key : ∀ p, Lib.BuilderAt 125 5 B b p bs w → ∀ v, w'.cell? ⟨b, 1, none⟩ = some v → v.ownBlock ≠ some w.heap.size := by
    rintro p ⟨_, u, hbk, hown, _⟩ v hv hk
    have hlt : b < w.heap.size := (Array.getElem?_eq_some_iff.1 hbk).1
    have h1 : w.cell? ⟨b, 1, none⟩ = some u := by rw [Lib.cell_of_heap hbk]; rfl
    rw [hb.cell (p := ⟨b, 1, none⟩) hlt, h1] at hv
    injection hv with hv
    subst hv
    have := (hown.lt _ hk).2
    omega
  rcases h with h | h
  · exact key _ h
  · exact key _ h
theorem IsBuilder.next {B b : Nat} {bs : List Value} {w w' : World} (h : Lib.IsBuilder 125 5 B b bs w) (hb : Below w.heap.size w w') : Lib.IsBuilder 125 5 B b bs w' := by
  have key : ∀ p, Lib.BuilderAt 125 5 B b p bs w → Lib.BuilderAt 125 5 B b p bs w' := by
    rintro p ⟨h1, u, hbk, hown, h2⟩
    have hlt : b < w.heap.size := (Array.getElem?_eq_some_iff.1 hbk).1
    exact ⟨h1, u, (hb.block b hlt).trans hbk, own_next hb hown, h2⟩
  rcases h with h | h
  · exact .inl (key _ h)
  · exact .inr (key _ h)
end Go.Proofs.YtpdaloohgfnbhaaGreatDoor
