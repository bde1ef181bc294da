/-
  what a card's start lays: the tables.
-/
import Derived.Test.YtpdaloohgfnbhaaGreatDoorVal2
import Derived.ProofKit
import Derived.OpenShut
import Derived.Lib.LaidTab
import Derived.Deep.DeepHandedRow
import Derived.Test.YtpdaloohgfnbhaaGreatDoorLexTextsW
import Derived.Test.YtpdaloohgfnbhaaGreatDoorNum10
namespace Go.Proofs.YtpdaloohgfnbhaaGreatDoor
open Go.RowKit

open Go.ChangeShapes Go.WideShapes Go.ChangeAt Go.RowKit

theorem own : ownKnob Tryz.prog.godebug = none := by kernel_rfl
theorem laidOut : laidOutB Tryz.prog = true := by kernel_rfl
theorem cells_of_strs {H : Type} {enc : TypeId × Value → H} {P : Program} {w : World} {base : Nat} {sp : Nat → Bool} {held : Bool} {fuel : Nat} {t e : TypeId} {n : Nat} {cs : List Value} {ss : List Bs} {p : List MemPlace}
    (ht : P.underlying t = some (.array n e)) (he : P.underlying e = some .string) (hce : P.cellsOf e = 1) (hct : P.cellsOf t = n)
    (h : DataW.trod enc P w base sp held fuel t cs = some (.agg (ss.map fun s => .lit (.string s)), p)) : cs = ss.map fun s => Value.string ⟨s.toArray⟩ := by
  cases fuel with
  | zero => simp [DataW.trod] at h
  | succ fuel =>
    simp only [DataW.trod, ht, hce, hct, Nat.mul_one] at h
    split at h
    · rename_i hl
      obtain ⟨xs, hm, hx⟩ := Option.map_eq_some_iff.1 h
      have hxs : xs.map (·.1) = ss.map fun s => (DataW.lit (.string s) : DataW H) := by
        have := congrArg Prod.fst hx
        simpa using this
      have hxl : xs.length = n := by simpa using Lib.mapM_length hm
      have hzl : ss.length = n := by
        have := congrArg List.length hxs
        simp at this
        omega
      apply List.ext_getElem?
      intro i
      by_cases hi : i < n
      · obtain ⟨b, hb, hf⟩ := Lib.mapM_at hm i i (by simp [hi])
        obtain ⟨z, hc, rfl, _⟩ := DataW.trod_string he hf
        have h1 : cs[i]? = some (.string z) := by
          have := congrArg (·[0]?) hc
          simpa [List.getElem?_take, List.getElem?_drop] using this
        have h2 : (xs.map (·.1))[i]? = some (DataW.lit (.string z.data.toList) : DataW H) := by simp [hb]
        rw [hxs] at h2
        simp only [List.getElem?_map, Option.map_eq_some_iff, DataW.lit.injEq, Lit.string.injEq] at h2
        obtain ⟨z', hz', hz2⟩ := h2
        simp [h1, hz', hz2]
      · rw [List.getElem?_eq_none (by omega), List.getElem?_eq_none (by simp; omega)]
    · cases h
theorem laid_mem {P : Program} {w : World} : ∀ {laid : List (String × DataW Unit)} {ps : List MemPlace}, DataW.LaidVars P w laid ps → ∀ {n : String} {d : DataW Unit}, (n, d) ∈ laid →
    ∃ g t cs fuel p, P.globalNamed n = some g ∧ (P.globals[g]?).map (·.type) = some t ∧ w.var? P n = some cs ∧ DataW.trod (fun _ => ()) P w 0 (fun _ => true) false fuel t cs.toList = some (d, p)
  | [], _, _, _, _, hm => by simp at hm
  | (n', d') :: r, ps, h, n, d, hm => by
    obtain ⟨g, t, cs, fuel, p, q, h1, h2, h3, h4, h5, _⟩ := h
    rcases List.mem_cons.1 hm with e | e
    · injection e with e1 e2
      subst e1 e2
      exact ⟨g, t, cs, fuel, p, h1, h2, h3, h4⟩
    · exact laid_mem h5 e
def faultName : String := "counterpane/value.faultTexts"
open Go.ChangeShapes Go.WideShapes Go.ChangeAt Go.RowKit

/-- bytes that came in, as a slice -/
theorem in_bytes {H : Type} {enc : TypeId × Value → H} {W : World} {a : Option Addr} {len cap : Nat} {d : DataW H} {p : List MemPlace} (h : DataW.Trod enc Tryz.prog W 0 (fun _ => true) true 54 (.slice a len cap) d p) :
    ∃ b : Bs, b.length = len ∧ len ≤ cap ∧ InBytes W a b := by
  obtain ⟨fuel, hf⟩ := h
  rcases open_ints Tryz.underlying54 Tryz.underlying5 (by kernel_rfl) hf with ⟨hcs, _⟩ | ⟨x, l, c, zs, hcs, _, hl, hm, hz, _, hcell, hwz⟩
  · simp [Value.cells] at hcs
    obtain ⟨rfl, rfl, rfl⟩ := hcs
    exact ⟨[], rfl, Nat.le_refl _, fun h0 => by simp at h0⟩
  · simp [Value.cells] at hcs
    obtain ⟨rfl, rfl, rfl⟩ := hcs
    have hz' : zs.length = cap := by simpa using hz
    refine ⟨(zs.take len).map (fun z => UInt8.ofNat z.toNat), by simp; omega, hl, fun h0 => ?_⟩
    have h0' : 0 < len := by simpa using (Nat.lt_of_lt_of_le h0 (by simp; omega) : 0 < len)
    obtain ⟨g, o, spot⟩ := x
    have hc0 := hcell 0 (by omega)
    have hspot : spot = none := by simpa [Addr.add] using World.cell?_spot hc0
    subst hspot
    refine ⟨g, o, rfl, lt_of_cell (by simpa [Addr.add] using hc0), fun j hj => ?_⟩
    have hj' : j < len := by simpa using (Nat.lt_of_lt_of_le hj (by simp; omega) : j < len)
    have hcj := hcell j (by omega)
    have hadd : (⟨g, o, none⟩ : Addr).add j = ⟨g, o + j, none⟩ := by
      unfold Addr.add
      by_cases e : j = 0
      · simp [e]
      · simp [e]
    rw [hadd] at hcj
    rw [hcj]
    have hjz : j < zs.length := by omega
    have hmem : zs[j] ∈ zs := List.getElem_mem hjz
    have hwf := hwz _ hmem
    have hb : 0 ≤ zs[j] ∧ zs[j] ≤ 255 := bounds_u8 hwf
    simp [hjz]
    omega
open Go.ChangeShapes Go.WideShapes Go.ChangeAt Go.RowKit

theorem gPowType : (Tryz.prog.globals[3]?).map (·.type) = some 188 := by kernel_rfl
theorem pow_of_laid {laid : List (String × DataW Unit)} {W : World} (h : laidMet Tryz.prog laid W) (hm : ("internal/strconv.uint64pow10", Rows.laid_internal_strconv_uint64pow10) ∈ laid) : PowTab W := by
  obtain ⟨ps, hl, _⟩ := h
  obtain ⟨g, t, cs, fuel, p, h1, h2, h3, h4⟩ := laid_mem hl hm
  obtain rfl := Option.some.inj (gPow.symm.trans h1)
  obtain rfl := Option.some.inj (gPowType.symm.trans h2)
  have hcs := Lib.cells_of_tab (zs := Lib.pow10Tab) Tryz.underlying188 Tryz.underlying117 (by kernel_rfl) (by kernel_rfl) h4
  unfold PowTab Lib.TabIs
  rw [h3, ← hcs]
def tabCells : DataW Unit → Array Value
  | .agg l => (l.map fun d => match d with | .lit (.int k z) => Value.int k z | .lit (.string s) => Value.string ⟨s.toArray⟩ | _ => Value.bool false).toArray
  | _ => #[]
def putTab (d : DataW Unit) : Obj → Obj
  | .cells _ t frozen => .cells (tabCells d) t frozen
  | o => o
open Go.ChangeShapes Go.WideShapes Go.ChangeAt Go.RowKit

theorem max_of_shaped {W : World} (h : W.ShapedOpen Tryz.prog) : MaxVar W :=
  Go.Proofs.cell_of_shapedOpen_int (zero := #[.int .i64 0]) (t := 3) h (of_decide_eq_true (by kernel_rfl)) (by kernel_rfl) rfl (by kernel_rfl) (by kernel_rfl) Tryz.underlying3
def cells1 : DataW Unit → List Value
  | .lit (.int k z) => [.int k z]
  | .lit (.string s) => [.string ⟨s.toArray⟩]
  | .agg l => l.map fun d => match d with | .lit (.int k z) => Value.int k z | .lit (.string s) => Value.string ⟨s.toArray⟩ | _ => Value.bool false
  | _ => []
def tabCells2 : DataW Unit → Array Value
  | .agg l => (l.flatMap cells1).toArray
  | _ => #[]
def putTab2 (d : DataW Unit) : Obj → Obj
  | .cells _ t frozen => .cells (tabCells2 d) t frozen
  | o => o
end Go.Proofs.YtpdaloohgfnbhaaGreatDoor
