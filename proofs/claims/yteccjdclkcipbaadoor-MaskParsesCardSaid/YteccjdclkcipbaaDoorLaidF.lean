/-
  What a row that lists the table of the faults' texts gives: the table lies in memory; a world for the witness; bytes that came in.
-/
import Derived.Test.YteccjdclkcipbaaDoorVal2
import Derived.ProofKit
import Derived.OpenShut
import Derived.Lib.LaidTab
import Derived.Deep.DeepHandedRow
namespace Go.Proofs.YteccjdclkcipbaaDoor
open Go.ChangeShapes Go.WideShapes Go.ChangeAt Go.RowKit

theorem own : ownKnob Tryd.prog.godebug = none := by kernel_rfl
theorem laidOut : laidOutB Tryd.prog = true := by kernel_rfl
theorem cells_of_strs {H : Type} {enc : TypeId × Value → H} {P : Program} {w : World} {base : Nat} {sp : Nat → Bool} {held : Bool} {fuel : Nat} {t e : TypeId} {n : Nat} {cs : List Value} {ss : List Bs} {p : List MemPlace}
    (ht : P.underlying t = some (.array n e)) (he : P.underlying e = some .string) (hce : P.cellsOf e = 1) (hct : P.cellsOf t = n)
    (h : DataW.trod enc P w base sp held fuel t cs = some (.agg (ss.map fun s => .lit (.string s)), p)) : cs = ss.map fun s => Value.string ⟨s.toArray⟩ := by
  cases fuel with
  | zero => simp [DataW.trod] at h
  | succ fuel =>
    simp only [DataW.trod, ht, hce, hct, Nat.mul_one] at h
    split at h
    · rename_i hl
      obtain ⟨xs, hm, hx⟩ := Option.map_eq_some_iff.1 h
      have hxs : xs.map (·.1) = ss.map fun s => (DataW.lit (.string s) : DataW H) := by
        have := congrArg Prod.fst hx
        simpa using this
      have hxl : xs.length = n := by simpa using Lib.mapM_length hm
      have hzl : ss.length = n := by
        have := congrArg List.length hxs
        simp at this
        omega
      apply List.ext_getElem?
      intro i
      by_cases hi : i < n
      · obtain ⟨b, hb, hf⟩ := Lib.mapM_at hm i i (by simp [hi])
        obtain ⟨z, hc, rfl, _⟩ := DataW.trod_string he hf
        have h1 : cs[i]? = some (.string z) := by
          have := congrArg (·[0]?) hc
          simpa [List.getElem?_take, List.getElem?_drop] using this
        have h2 : (xs.map (·.1))[i]? = some (DataW.lit (.string z.data.toList) : DataW H) := by simp [hb]
        rw [hxs] at h2
        simp only [List.getElem?_map, Option.map_eq_some_iff, DataW.lit.injEq, Lit.string.injEq] at h2
        obtain ⟨z', hz', hz2⟩ := h2
        simp [h1, hz', hz2]
      · rw [List.getElem?_eq_none (by omega), List.getElem?_eq_none (by simp; omega)]
    · cases h
theorem laid_mem {P : Program} {w : World} : ∀ {laid : List (String × DataW Unit)} {ps : List MemPlace}, DataW.LaidVars P w laid ps → ∀ {n : String} {d : DataW Unit}, (n, d) ∈ laid →
    ∃ g t cs fuel p, P.globalNamed n = some g ∧ (P.globals[g]?).map (·.type) = some t ∧ w.var? P n = some cs ∧ DataW.trod (fun _ => ()) P w 0 (fun _ => true) false fuel t cs.toList = some (d, p)
  | [], _, _, _, _, hm => by simp at hm
  | (n', d') :: r, ps, h, n, d, hm => by
    obtain ⟨g, t, cs, fuel, p, q, h1, h2, h3, h4, h5, _⟩ := h
    rcases List.mem_cons.1 hm with e | e
    · injection e with e1 e2
      subst e1 e2
      exact ⟨g, t, cs, fuel, p, h1, h2, h3, h4⟩
    · exact laid_mem h5 e
def faultName : String := "counterpane/value.faultTexts"
theorem gFault : Tryd.prog.globalNamed faultName = some 0 := by kernel_rfl
theorem gFaultType : (Tryd.prog.globals[0]?).map (·.type) = some 138 := by kernel_rfl
theorem tab_of_laid {laid : List (String × DataW Unit)} {W : World} (h : laidMet Tryd.prog laid W) (hm : (faultName, Rows.laid_counterpane_value_faultTexts) ∈ laid) : Tab W := by
  obtain ⟨ps, hl, _⟩ := h
  obtain ⟨g, t, cs, fuel, p, h1, h2, h3, h4⟩ := laid_mem hl hm
  obtain rfl := Option.some.inj (gFault.symm.trans h1)
  obtain rfl := Option.some.inj (gFaultType.symm.trans h2)
  have hcs := cells_of_strs (ss := (List.range 10).map faultB) Tryd.underlying138 Tryd.underlying9 (by kernel_rfl) (by kernel_rfl) h4
  intro i hi
  have h5 := World.var?_cell gFault h3 i
  rw [h5]
  have h6 : cs[i]? = cs.toList[i]? := by simp
  rw [h6, hcs]
  simp [hi]
/-- A WORLD FOR THE WITNESS: the settled one, the table holding what its initialiser lays. -/
noncomputable def laidWorld (os : Os) : World :=
  { World.holding Tryd.prog os ⟨#[], #[], []⟩ with heap := (World.holding Tryd.prog os ⟨#[], #[], []⟩).heap.modify 0 fun
      | .cells _ t frozen => .cells #[.string ⟨#[]⟩, .string ⟨#[35, 68, 73, 86, 47, 48, 33]⟩, .string ⟨#[35, 86, 65, 76, 85, 69, 33]⟩, .string ⟨#[35, 82, 69, 70, 33]⟩, .string ⟨#[35, 78, 65, 77, 69, 63]⟩, .string ⟨#[35, 78, 85, 77, 33]⟩, .string ⟨#[35, 78, 47, 65]⟩, .string ⟨#[35, 83, 80, 73, 76, 76, 33]⟩, .string ⟨#[35, 67, 73, 82, 67, 33]⟩, .string ⟨#[35, 67, 65, 76, 67, 33]⟩] t frozen
      | o => o }
end Go.Proofs.YteccjdclkcipbaaDoor
