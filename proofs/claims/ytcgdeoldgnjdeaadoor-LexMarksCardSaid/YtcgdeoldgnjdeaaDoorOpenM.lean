/-
  An argument of type addr.Mark: how it reads.
-/
import Derived.Test.YtcgdeoldgnjdeaaDoorAddr3
import Derived.Test.YtcgdeoldgnjdeaaDoorCards
import Derived.ProofKit
import Derived.OpenShut
import Derived.ShutString
import Derived.Deep.DeepHandedRow
namespace Go.Proofs.YtcgdeoldgnjdeaaDoor
open Go.ChangeShapes Go.WideShapes Go.ChangeAt Go.RowKit

theorem cellsIntM : Tryd.prog.cellsOf 3 = 1 := by kernel_rfl
theorem cellsBoolM : Tryd.prog.cellsOf 4 = 1 := by kernel_rfl
theorem cellsMark : Tryd.prog.cellsOf 59 = 4 := by kernel_rfl
section
variable {H : Type} {enc : TypeId × Value → H} {w : World} {base : Nat} {sp : Nat → Bool} {held : Bool}
set_option maxRecDepth 100000 in
theorem open_mark {r : Reach} {b0 : Nat} {v : Value} {d : DataW H} {p : List MemPlace} (hv : Value.okWide Tryd.prog w r b0 59 v) (h : DataW.Trod enc Tryd.prog w base sp held 59 v d p) :
    ∃ (m e : Int) (x y : Bool), v = markV m e x y ∧ p = [] := by
  obtain ⟨cs, rfl, hsz⟩ := okWide_struct Tryd.underlying59 hv
  obtain ⟨l⟩ := cs
  match l, hsz.trans cellsMark with
  | [c0, c1, c2, c3], _ =>
    obtain ⟨fuel, hf⟩ := h
    have hf' : DataW.trod enc Tryd.prog w base sp held fuel 59 [c0, c1, c2, c3] = some (d, p) := by simpa [Value.cells] using hf
    obtain ⟨xs, n, _, hx, _, hlen, hg⟩ := DataW.trod_struct Tryd.underlying59 hf'
    match xs, hlen with
    | [y0, y1, y2, y3], _ =>
      have g0 : DataW.trod enc Tryd.prog w base sp held n 3 [c0] = some y0 := by have := hg 0 _ rfl; simpa [cellsIntM] using this
      have g1 : DataW.trod enc Tryd.prog w base sp held n 3 [c1] = some y1 := by have := hg 1 _ rfl; simpa [cellsIntM] using this
      have g2 : DataW.trod enc Tryd.prog w base sp held n 4 [c2] = some y2 := by have := hg 2 _ rfl; simpa [cellsBoolM, cellsIntM] using this
      have g3 : DataW.trod enc Tryd.prog w base sp held n 4 [c3] = some y3 := by have := hg 3 _ rfl; simpa [cellsBoolM, cellsIntM] using this
      obtain ⟨m, e0, rfl, _⟩ := DataW.trod_int Tryd.underlying3 g0
      obtain ⟨e, e1, rfl, _⟩ := DataW.trod_int Tryd.underlying3 g1
      obtain ⟨x, e2, rfl⟩ := DataW.trod_bool Tryd.underlying4 g2
      obtain ⟨y, e3, rfl⟩ := DataW.trod_bool Tryd.underlying4 g3
      injection e0 with e0
      injection e1 with e1
      injection e2 with e2
      injection e3 with e3
      subst e0 e1 e2 e3
      exact ⟨m, e, x, y, rfl, (congrArg Prod.snd hx).trans rfl⟩
end
end Go.Proofs.YtcgdeoldgnjdeaaDoor
