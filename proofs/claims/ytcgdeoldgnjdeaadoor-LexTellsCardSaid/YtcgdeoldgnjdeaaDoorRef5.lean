/-
  counterpaneref05.IsName, Faults, Signs, begins, text: what they return.
-/
import Derived.Test.YtcgdeoldgnjdeaaDoorRef4
import Derived.Test.YtcgdeoldgnjdeaaDoorPlainS
import Derived.Test.YtcgdeoldgnjdeaaDoorPlainV
namespace Go.Proofs.YtcgdeoldgnjdeaaDoor
open Go.RowKit

def rIsName (l : Bs) : Bool := decide (rWord l = l.length) && decide (0 < l.length) && !pMark l && decide (dollars l = 0)
set_option maxRecDepth 100000 in
set_option maxHeartbeats 1600000 in
theorem rIsName_any (l : Bs) (w : World) (hs : l.length ≤ 1000000) :
    Calls Tryd.prog 79 #[.string ⟨l.toArray⟩] w fun e w' => e = .returned (.bool (rIsName l)) ∧ w = w' := by
  have hN : rIsName l = (decide (rWord l = l.length) && decide (0 < l.length) && !pMark l && decide (dollars l = 0)) := rfl
  have HN := Lib.hid hN
  clear hN
  generalize rIsName l = r at *
  go_enter Tryd.func79, Tryd.ntmps79
  go_wp2_with fail
  refine (rword_any l _ hs).mono ?_
  rintro e w' ⟨rfl, rfl⟩
  generalize rWord l = n at *
  by_cases h1 : n = l.length
  · have b1 : ((n : Int) != (l.length : Int)) = false := by rw [bne_eq_false_iff_eq]; omega
    by_cases h2 : 0 < l.length
    · have b2 : ((l.length : Int) == 0) = false := by rw [beq_eq_false_iff_ne]; omega
      have HT : Hid (r = (!pMark l && decide (dollars l = 0))) := Lib.hid (by rw [HN.out, decide_eq_true h1, decide_eq_true h2]; rfl)
      clear HN h1
      go_wp2_with fail
      refine (rIsMark_any l _ hs).mono ?_
      rintro e w' ⟨rfl, rfl⟩
      cases hm : pMark l
      · rw [hm] at HT
        go_wp2_with fail
        go_loop [3] (fun i => ∃ k : Nat, k ≤ l.length ∧ i = .int .i64 k ∧ Hid (dollars (l.take k) = 0)) (fun i => l.length - (intOf i).toNat)
        case atStart => exact ⟨0, Nat.zero_le _, rfl, Lib.hid rfl⟩
        case round =>
          obtain ⟨k, hk, rfl, hq⟩ := hrel
          by_cases hlt : k < l.length
          · have e36 := u8_beq l[k] 36 36 rfl
            have hsn : dollars (l.take (k + 1)) = dollars (l.take k) + if l[k] == 36 then 1 else 0 := by rw [List.take_succ_eq_append_getElem hlt, dollars_snoc]
            have HSN := Lib.hid hsn
            clear hsn
            cases h36 : (l[k] == 36)
            · rw [h36] at e36
              have hq2 : Hid (dollars (l.take (k + 1)) = 0) := Lib.hid (by rw [HSN.out, h36, hq.out]; rfl)
              go_wp2_with fail
              go_round
              case rel => exact ⟨k + 1, by omega, by go_num, hq2⟩
              case measure => simp [intOf]; omega
            · rw [h36] at e36
              have hd : Hid (decide (dollars l = 0) = false) := Lib.hid (by
                rw [decide_eq_false_iff_not]
                intro h0
                have h3 : (36 : UInt8) ∈ l := by rw [← eq_of_beq h36]; exact List.getElem_mem hlt
                have := List.count_pos_iff.2 h3
                unfold dollars at h0
                omega)
              go_wp2_with fail
              go_ret
              exact ⟨ret_bool (by rw [HT.out, hd.out]; rfl), rfl⟩
          · have hd : Hid (decide (dollars l = 0) = true) := Lib.hid (by rw [decide_eq_true_eq]; rw [List.take_of_length_le (by omega)] at hq; exact hq.out)
            go_wp2_with fail
            go_ret
            exact ⟨ret_bool (by rw [HT.out, hd.out]; rfl), rfl⟩
      · rw [hm] at HT
        go_wp2_with fail
        go_ret
        exact ⟨ret_bool (by rw [HT.out]; rfl), rfl⟩
    · have b2 : ((l.length : Int) == 0) = true := by rw [beq_iff_eq]; omega
      have HT : Hid (r = false) := Lib.hid (by rw [HN.out, decide_eq_false h2]; simp)
      clear HN h1
      go_wp2_with fail
      go_ret
      exact ⟨ret_bool (by rw [HT.out]), rfl⟩
  · have b1 : ((n : Int) != (l.length : Int)) = true := by rw [bne_iff_ne]; omega
    have HT : Hid (r = false) := Lib.hid (by rw [HN.out, decide_eq_false h1]; rfl)
    clear HN
    go_wp2_with fail
    go_ret
    exact ⟨ret_bool (by rw [HT.out]), rfl⟩

/-- a row of texts in memory -/
def StrIn (w : World) (g : Nat) (ts : List Bs) : Prop := g < w.heap.size ∧ ∀ i (h : i < ts.length), w.cell? ⟨g, i, none⟩ = some (.string ⟨ts[i].toArray⟩)
theorem StrIn.next {w w' : World} {g : Nat} {ts : List Bs} (h : StrIn w g ts) (hb : Below w.heap.size w w') : StrIn w' g ts :=
  ⟨by have := h.1; have := hb.size; omega, fun i hi => (hb.cell (p := ⟨g, i, none⟩) h.1).trans (h.2 i hi)⟩
theorem strIn_alloc (w : World) (ts : List Bs) (t : TypeId) : StrIn (w.alloc (.cells (ts.map fun s => Value.string ⟨s.toArray⟩).toArray t)) w.heap.size ts :=
  ⟨by simp, fun i hi => by rw [World.cell?_alloc_at _ _ _ _ rfl]; simp [hi]⟩
def faultsL : List Bs := (List.range 10).map faultB
def signsL : List Bs := [[60, 62], [60, 61], [62, 61], [43], [45], [42], [47], [94], [38], [61], [60], [62], [37], [40], [41], [123], [125], [44], [59], [58], [35]]
set_option maxHeartbeats 400000 in
theorem faults_any (w : World) :
    Calls Tryd.prog 83 #[] w fun e w' => ∃ g, e = .returned (.slice (some ⟨g, 0, none⟩) 10 10) ∧ w.heap.size ≤ g ∧ StrIn w' g faultsL ∧ Below w.heap.size w w' := by
  go_enter Tryd.func83, Tryd.ntmps83
  go_wp2
  go_ret
  exact ⟨w.heap.size, rfl, Nat.le_refl _, strIn_alloc w faultsL 9, (Below.refl _ w).alloc (Nat.le_refl _) _⟩
set_option maxHeartbeats 400000 in
theorem signs_any (w : World) :
    Calls Tryd.prog 82 #[] w fun e w' => ∃ g, e = .returned (.slice (some ⟨g, 0, none⟩) 21 21) ∧ w.heap.size ≤ g ∧ StrIn w' g signsL ∧ Below w.heap.size w w' := by
  go_enter Tryd.func82, Tryd.ntmps82
  go_wp2
  go_ret
  exact ⟨w.heap.size, rfl, Nat.le_refl _, strIn_alloc w signsL 9, (Below.refl _ w).alloc (Nat.le_refl _) _⟩

/-- does a text begin with another one, folded, or not? -/
def foldIf (f : Bool) (c : UInt8) : UInt8 := if f then up c else c
def rBegins (f : Bool) (l t : Bs) : Bool := decide (t.length ≤ l.length) && ((l.take t.length).map (foldIf f) == t)
theorem rBegins_no (f : Bool) (l t : Bs) (i : Nat) (h : i < l.length) (h' : i < t.length) (hne : foldIf f l[i] ≠ t[i]) : rBegins f l t = false := by
  unfold rBegins
  rw [Bool.and_eq_false_iff]
  right
  rw [beq_eq_false_iff_ne]
  intro e
  apply hne
  have e2 : ((l.take t.length).map (foldIf f))[i]? = t[i]? := by rw [e]
  rw [List.getElem?_map, List.getElem?_take_of_lt h', List.getElem?_eq_getElem h, List.getElem?_eq_getElem h'] at e2
  simpa using e2
theorem rBegins_yes (f : Bool) (l t : Bs) (hle : t.length ≤ l.length) (h : ∀ i (h : i < l.length) (h' : i < t.length), foldIf f l[i] = t[i]) : rBegins f l t = true := by
  unfold rBegins
  rw [decide_eq_true hle, Bool.true_and, beq_iff_eq]
  apply List.ext_getElem
  · simp; omega
  · intro i h1 h2
    rw [List.getElem_map, List.getElem_take]
    exact h i (by omega) h2
set_option maxRecDepth 100000 in
set_option maxHeartbeats 1600000 in
theorem begins_any (f : Bool) (l t : Bs) (w : World) (hs : l.length ≤ 1000000) :
    Calls Tryd.prog 116 #[.string ⟨l.toArray⟩, .string ⟨t.toArray⟩, .bool f] w fun e w' => e = .returned (.bool (rBegins f l t)) ∧ w = w' := by
  by_cases hle : t.length ≤ l.length
  · have HYES := Lib.hid (rBegins_yes f l t hle)
    have HNO := Lib.hid (rBegins_no f l t)
    generalize rBegins f l t = r at *
    go_enter Tryd.func116, Tryd.ntmps116
    go_wp2_with fail
    go_loopg [7] (t.length) (fun g i wr => ∃ k : Nat, k ≤ t.length ∧ g = t.length - k ∧ i = .int .i64 k ∧ Hid (∀ j (h : j < l.length) (h' : j < t.length), j < k → foldIf f l[j] = t[j]) ∧ w = wr)
    case atStart => exact ⟨0, Nat.zero_le _, rfl, rfl, Lib.hid (fun j _ _ h => by omega), rfl⟩
    case round =>
      obtain ⟨k, hk, rfl, rfl, hq, rfl⟩ := hrel
      by_cases hlt : k < t.length
      · have hlt2 : k < l.length := by omega
        go_upto_region 7 with fail
        go_cut [31] (fun v wx => v = .bool (f && isLow l[k]) ∧ w = wx)
        case first =>
          cases f
          · go_wp2_with fail
            go_meet
            exact ⟨rfl, rfl⟩
          · cases hlow : isLow l[k]
            · by_cases h97 : 97 ≤ l[k].toNat
              · have h122 : ¬ l[k].toNat ≤ 122 := by
                  intro h
                  rw [(isLow_iff _).2 ⟨h97, h⟩] at hlow; cases hlow
                have d1 : decide ((97 : Int) ≤ (l[k].toNat : Int)) = true := by simp; omega
                have d2 : decide ((l[k].toNat : Int) ≤ 122) = false := by simp; omega
                go_wp2_with fail
                go_meet
                exact ⟨by first | rfl | (rw [hlow]; rfl), rfl⟩
              · have d1 : decide ((97 : Int) ≤ (l[k].toNat : Int)) = false := by simp; omega
                go_wp2_with fail
                go_meet
                exact ⟨by first | rfl | (rw [hlow]; rfl), rfl⟩
            · obtain ⟨h1, h2⟩ := (isLow_iff _).1 hlow
              have d1 : decide ((97 : Int) ≤ (l[k].toNat : Int)) = true := by simp; omega
              have d2 : decide ((l[k].toNat : Int) ≤ 122) = true := by simp; omega
              go_wp2_with fail
              go_meet
              exact ⟨by first | rfl | (rw [hlow]; rfl), rfl⟩
        case rest =>
          obtain ⟨rfl, rfl⟩ := hcut
          go_upto_if 31 with fail
          go_cut [8] (fun v wx => v = .int .u8 ((foldIf f l[k]).toNat : Int) ∧ w = wx)
          case first =>
            cases hb : (f && isLow l[k])
            · have hc : Hid (foldIf f l[k] = l[k]) := Lib.hid (by
                unfold foldIf
                cases f
                · rfl
                · exact up_other _ (by simpa using hb))
              go_wp2_with fail
              go_meet
              exact ⟨by rw [hc.out], rfl⟩
            · have hf : f = true := by
                cases f
                · cases hb
                · rfl
              subst hf
              have hlow : isLow l[k] = true := by simpa using hb
              obtain ⟨h1, h2⟩ := (isLow_iff _).1 hlow
              have hc : Hid ((((foldIf true l[k]).toNat : Nat) : Int) = (l[k].toNat : Int) - 32) := Lib.hid (by
                have := up_low _ hlow
                show (((up l[k]).toNat : Nat) : Int) = _
                omega)
              go_wp2_with fail
              go_meet
              exact ⟨by rw [hc.out], rfl⟩
          case rest =>
            obtain ⟨rfl, rfl⟩ := hcut
            have hn := Lib.hid (HNO.out k hlt2 hlt)
            have e1 := u8_bne (foldIf f l[k]) t[k] _ rfl
            have hqk : Hid (foldIf f l[k] = t[k] → ∀ j (h : j < l.length) (h' : j < t.length), j < k + 1 → foldIf f l[j] = t[j]) := Lib.hid (by
              intro e j h h' hj
              by_cases ej : j = k
              · subst ej; exact e
              · exact hq.out j h h' (by omega))
            generalize foldIf f l[k] = c at *
            cases he : (c == t[k])
            · rw [he] at e1
              have hr : Hid (r = false) := Lib.hid (hn.out (by intro e; rw [e] at he; simp at he))
              go_wp2_with fail
              go_ret
              exact ⟨ret_bool (by rw [hr.out]), rfl⟩
            · rw [he] at e1
              have hq2 := Lib.hid (hqk.out (eq_of_beq he))
              go_wp2_with fail
              go_roundg (t.length - (k + 1))
              case measure => omega
              case rel => exact ⟨k + 1, by omega, rfl, by go_num, hq2, rfl⟩
      · have hr : Hid (r = true) := Lib.hid (HYES.out (fun j h h' => hq.out j h h' (by omega)))
        go_wp2_with fail
        go_ret
        exact ⟨ret_bool (by rw [hr.out]), rfl⟩
  · have hr : rBegins f l t = false := by unfold rBegins; rw [decide_eq_false hle]; rfl
    rw [hr]
    clear hr
    go_enter Tryd.func116, Tryd.ntmps116
    go_wp2_with fail
    go_ret
    exact ⟨rfl, rfl⟩
end Go.Proofs.YtcgdeoldgnjdeaaDoor
