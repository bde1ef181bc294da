/-
  A region that draws its order inside a fence (a round of a range over a function, too), by an invariant: one obligation an operation.
-/
import Derived.OrdersIn
import Derived.TacticsIn
import Derived.OwnWalkIn
import Derived.Test.YteccjdclkcipbaaDoorOrd2
namespace Go.Proofs.YteccjdclkcipbaaDoor
open Go

section
variable {F : Fence} {n : Nat} {P : Program} {ops : Array Oper} {Q : Exit → Act → World → Prop} {md : Region.Mode}
theorem wpAnyIn_inv (hb : backward ops = true) (I : Array Bool → Act → World → Prop)
    (hstep : ∀ listed a w i o, listed.size = ops.size → I listed a w → listed.getD i true = false → ops[i]? = some o → (∀ e ∈ o.after, Region.binds md e = true → Up listed e.on) → wpOpIn F n P ops Q i (I (listed.setIfInBounds i true)) a w)
    (hdone : ∀ listed a w, I listed a w → (∀ i, i < ops.size → Up listed i) → Q .normal a w) :
    ∀ (fuel : Nat) (listed : Array Bool) (a : Act) (w : World), listed.size = ops.size → left listed ≤ fuel → I listed a w → wpAnyIn F n P md ops Q fuel listed a w
  | 0, listed, a, w, hs, hf, hI => by
    have hr : Region.ready md ops listed = [] := by
      refine List.eq_nil_iff_forall_not_mem.2 (fun i hi => ?_)
      have h1 := (mem_ready.1 hi).1
      rw [left_zero (by omega) i] at h1
      cases h1
    exact ⟨hr, hdone listed a w hI (all_up hb hs hr)⟩
  | fuel + 1, listed, a, w, hs, hf, hI => by
    refine ⟨fun hr => hdone listed a w hI (all_up hb hs hr), fun i hi => ?_⟩
    obtain ⟨h1, o, ho, hdeps⟩ := mem_ready.1 hi
    refine wpOpIn_mono (fun a' w' h' => wpAnyIn_inv hb I hstep hdone fuel _ a' w' (by rw [Array.size_setIfInBounds]; exact hs) (by have := left_set h1; omega) h') (hstep listed a w i o hs hI h1 ho hdeps)
theorem wpIn_region_inv' {id : Nat} {a : Act} {w : World} (hm : P.follows .mixedOrders = true) (hb : backward ops = true) (C : Act → Prop) (I : Act → Array Bool → Act → World → Prop) (hC : C a)
    (h0 : I a (Array.replicate ops.size false) a w.drew)
    (hstep : ∀ a0, C a0 → ∀ listed a w i o, listed.size = ops.size → I a0 listed a w → listed.getD i true = false → ops[i]? = some o → (∀ e ∈ o.after, Region.binds .any e = true → Up listed e.on) → wpOpIn F n P ops Q i (I a0 (listed.setIfInBounds i true)) a w)
    (hdone : ∀ listed a' w', I a listed a' w' → (∀ i, i < ops.size → Up listed i) → Q .normal a' w') : (Code.region id ops true).wpIn F n P Q a w :=
  wpIn_region_any hm (wpAnyIn_inv hb (I a) (hstep a hC) hdone ops.size _ a _ (by simp) (by rw [left_replicate]; exact Nat.le_refl _) h0)
/-- an operation that gives a value and changes nothing -/
theorem wpOpIn_val {i : Nat} {o : Oper} {K : Act → World → Prop} {a : Act} {w : World} (v : Value) (ho : ops[i]? = some o) (hg : o.guard = none) (hnc : ∀ c, o.op ≠ .defer c) (hab : o.about P w a.eval = none)
    (hr : (execOp a.eval o).run P w = .ok (.value v) w) (hk : K (a.put o.dst v) w) : wpOpIn F n P ops Q i K a w := by
  unfold wpOpIn
  rw [ho]
  simp only
  rw [if_pos (by simp [Region.wanted, hg])]
  refine ⟨fun f hf => (by rw [hab] at hf; cases hf), ?_⟩
  rw [Oper.semAt_plain F _ _ hnc, hr]
  exact hk
/-- what holds while operations of known values, which change nothing, come up -/
structure RdI (S : List Nat) (T : List (Nat × Nat × Value)) (X : World) (a0 : Act) (listed : Array Bool) (a : Act) (w : World) : Prop where
  off : Off S a0 a
  pt : PT T listed a
  eq : w = X
theorem RdI.start {S : List Nat} {T : List (Nat × Nat × Value)} {X : World} (a : Act) (m : Nat) : RdI S T X a (Array.replicate m false) a X := ⟨Off.refl _ _, PT.start _ _ _, rfl⟩
theorem rdi_op {S : List Nat} {T : List (Nat × Nat × Value)} {X w : World} {a0 a : Act} {listed : Array Bool} {o : Oper} {i s : Nat} (v : Value) (hI : RdI S T X a0 listed a w) (hun : listed.getD i true = false) (ho : ops[i]? = some o) (hg : o.guard = none) (hd : o.dst = some s) (hs : s < a0.tmps.size) (hsS : s ∈ S)
    (h1 : ∀ e ∈ T, e.2.1 = s → e.2.2 = v) (h2 : ∀ e ∈ T, e.1 = i → e.2.1 = s) (hnc : ∀ c, o.op ≠ .defer c) (hab : o.about P w a.eval = none) (hr : (execOp a.eval o).run P w = .ok (.value v) w) : wpOpIn F n P ops Q i (RdI S T X a0 (listed.setIfInBounds i true)) a w := by
  have hi := Up.of_false hun
  refine wpOpIn_val v ho hg hnc hab hr ?_
  rw [hd]
  exact ⟨hI.off.put hsS v, hI.pt.step hi (by rw [hI.off.size]; exact hs) h1 h2, hI.eq⟩
end
end Go.Proofs.YteccjdclkcipbaaDoor
