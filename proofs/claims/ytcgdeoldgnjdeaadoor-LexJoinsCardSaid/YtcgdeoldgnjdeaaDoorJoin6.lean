/-
  ref05.May: what it returns.
-/
import Derived.Test.YtcgdeoldgnjdeaaDoorJoin5
namespace Go.Proofs.YtcgdeoldgnjdeaaDoor
open Go.RowKit

def okZ (last : Bool) (t : RTok) : Bool :=
  (t.kind == 0 && t.text.isEmpty && last) || (t.kind == 1 && rIsNumber t.text) || t.kind == 2 || (t.kind == 3 && rIsName t.text) || (t.kind == 4 && pMark t.text) || (t.kind == 5 && inL t.text signsL) || (t.kind == 6 && inL t.text faultsL)
def stepZ (last : Bool) (t : RTok) : Bool := okZ last t && !(last && t.kind != 0)
/-- what May tells, if it tells so -/
def MayPost (w : World) (ts : List RTok) (e : Ending) (w' : World) : Prop :=
  ∃ b : Bool, e = .returned (.bool b) ∧ (b = true → 0 < ts.length ∧ ∀ j (h : j < ts.length), stepZ (decide (j + 1 = ts.length)) ts[j] = true) ∧ Below w.heap.size w w'
theorem mayPost_no {w w' : World} {ts : List RTok} (hb : Below w.heap.size w w') : MayPost w ts (.returned (.bool false)) w' := ⟨false, rfl, (fun h => by cases h), hb⟩
theorem mayPost_yes {w w' : World} {ts : List RTok} (b : Bool) (hb : Below w.heap.size w w') (h1 : b = true → 0 < ts.length) (h : ∀ j (h : j < ts.length), stepZ (decide (j + 1 = ts.length)) ts[j] = true) : MayPost w ts (.returned (.bool b)) w' := ⟨b, rfl, fun e => ⟨h1 e, h⟩, hb⟩
set_option maxRecDepth 100000 in
set_option maxHeartbeats 6400000 in
theorem may_any (A : Option Addr) (cap : Nat) (ts : List RTok) (w : World) (hn : ts.length ≤ 1000) (hts : ∀ t ∈ ts, t.text.length ≤ 9223372036854775807) (hin : RIn w A ts) :
    Calls Tryd.prog 46 #[.slice A ts.length cap] w (MayPost w ts) := by
  have HIN := Lib.hid hin
  have HTS := Lib.hid hts
  clear hin hts
  go_enter Tryd.func46, Tryd.ntmps46
  go_wp2_with fail
  go_loopg [3] (ts.length) (fun gk i wr => ∃ k : Nat, k ≤ ts.length ∧ gk = ts.length - k ∧ i = .int .i64 k ∧ Hid (∀ j (h : j < ts.length), j < k → stepZ (decide (j + 1 = ts.length)) ts[j] = true) ∧ Hid (Below w.heap.size w wr))
  case atStart => exact ⟨0, Nat.zero_le _, rfl, rfl, Lib.hid (fun j _ h => by omega), Lib.hid (Below.refl _ _)⟩
  case round =>
    obtain ⟨k, hk, hgk, rfl, HOK, HBE⟩ := hrel
    have HGK := Lib.hid hgk
    clear hgk
    by_cases hlt : k < ts.length
    · obtain ⟨g, o, rfl, hg, hc⟩ := HIN.out (by omega)
      obtain ⟨c0, c1, c2⟩ := hc k hlt
      have d0 : wr.cell? ⟨g, o + k * 3, none⟩ = some (.int .i64 ts[k].kind) := (HBE.out.cell (p := ⟨g, _, none⟩) hg).trans c0
      have d1 : wr.cell? ⟨g, o + k * 3 + 1, none⟩ = some (.string ⟨ts[k].text.toArray⟩) := (HBE.out.cell (p := ⟨g, _, none⟩) hg).trans c1
      clear c0 c1 c2 hc
      have hk0 : (0 : Int) ≤ (k : Int) := Int.natCast_nonneg _
      have hk1 : (k : Int) < (ts.length : Int) := by omega
      obtain ⟨last, hlast⟩ : ∃ last, decide (k + 1 = ts.length) = last := ⟨_, rfl⟩
      have hla : ((k : Int) == (ts.length : Int) - 1) = last := by
        rw [← hlast, Bool.eq_iff_iff, beq_iff_eq, decide_eq_true_eq]
        omega
      have htl := HTS.out ts[k] (List.getElem_mem hlt)
      have HOK2 : Hid (stepZ last ts[k] = true → ∀ j (h : j < ts.length), j < k + 1 → stepZ (decide (j + 1 = ts.length)) ts[j] = true) := Lib.hid (fun hs j h h' => by
        rcases Nat.lt_or_ge j k with h2 | h2
        · exact HOK.out j h h2
        · obtain rfl : j = k := by omega
          rw [hlast]; exact hs)
      clear hlast HOK
      go_wp2_with fail
      go_quiet (fail)
      generalize ts[k] = t at *
      obtain ⟨kd, tx, pl⟩ := t
      simp only at *
      go_upto_region 5 with fail
      go_cut [6] (fun v wx => v = .bool (okZ last ⟨kd, tx, pl⟩) ∧ Hid (Below wr.heap.size wr wx))
      case first =>
        clear HOK2 HIN HTS HBE
        by_cases e0 : kd = 0
        · subst e0
          cases tx with
          | nil =>
            have HV : Hid (okZ last ⟨0, [], pl⟩ = last) := Lib.hid (by unfold okZ; simp)
            cases last
            all_goals
              go_wp2_with fail
              go_meet
              exact ⟨congrArg Value.bool HV.out.symm, Lib.hid (below_drewN (Below.refl _ _) _)⟩
          | cons c x =>
            have HV : Hid (okZ last ⟨0, c :: x, pl⟩ = false) := Lib.hid (by unfold okZ; simp)
            go_wp2_with fail
            go_meet
            exact ⟨congrArg Value.bool HV.out.symm, Lib.hid (below_drewN (Below.refl _ _) _)⟩
        by_cases e1 : kd = 1
        · subst e1
          have HV : Hid (okZ last ⟨1, tx, pl⟩ = rIsNumber tx) := Lib.hid (by unfold okZ; simp)
          go_wp2_with fail
          refine (isNumber_any tx _ htl).mono ?_
          rintro e wz ⟨rfl, rfl⟩
          cases hv : rIsNumber tx
          all_goals
            rw [hv] at HV
            go_wp2_with fail
            go_meet
            exact ⟨congrArg Value.bool HV.out.symm, Lib.hid (below_drewN (Below.refl _ _) _)⟩
        by_cases e2 : kd = 2
        · subst e2
          have HV : Hid (okZ last ⟨2, tx, pl⟩ = true) := Lib.hid (by unfold okZ; simp)
          go_wp2_with fail
          go_meet
          exact ⟨congrArg Value.bool HV.out.symm, Lib.hid (below_drewN (Below.refl _ _) _)⟩
        by_cases e3 : kd = 3
        · subst e3
          have HV : Hid (okZ last ⟨3, tx, pl⟩ = rIsName tx) := Lib.hid (by unfold okZ; simp)
          go_wp2_with fail
          refine (rIsName_any tx _ htl).mono ?_
          rintro e wz ⟨rfl, rfl⟩
          cases hv : rIsName tx
          all_goals
            rw [hv] at HV
            go_wp2_with fail
            go_meet
            exact ⟨congrArg Value.bool HV.out.symm, Lib.hid (below_drewN (Below.refl _ _) _)⟩
        by_cases e4 : kd = 4
        · subst e4
          have HV : Hid (okZ last ⟨4, tx, pl⟩ = pMark tx) := Lib.hid (by unfold okZ; simp)
          go_wp2_with fail
          refine (rIsMark_any tx _ htl).mono ?_
          rintro e wz ⟨rfl, rfl⟩
          cases hv : pMark tx
          all_goals
            rw [hv] at HV
            go_wp2_with fail
            go_meet
            exact ⟨congrArg Value.bool HV.out.symm, Lib.hid (below_drewN (Below.refl _ _) _)⟩
        by_cases e5 : kd = 5
        · subst e5
          have HV : Hid (okZ last ⟨5, tx, pl⟩ = inL tx signsL) := Lib.hid (by unfold okZ; simp)
          go_wp2_with fail
          refine (signs_any _).mono ?_
          rintro e wz ⟨gs, rfl, hgs, hst, hb⟩
          have HST := Lib.hid hst
          have HBz := Lib.hid ((below_drewN (Below.refl _ wr) nq).trans hb)
          clear hst hb
          go_wp2_with fail
          refine (in_any tx gs 21 signsL _ (by decide) HST.out).mono ?_
          rintro e wy ⟨rfl, rfl⟩
          cases hv : inL tx signsL
          all_goals
            rw [hv] at HV
            go_wp2_with fail
            go_meet
            exact ⟨congrArg Value.bool HV.out.symm, HBz⟩
        by_cases e6 : kd = 6
        · subst e6
          have HV : Hid (okZ last ⟨6, tx, pl⟩ = inL tx faultsL) := Lib.hid (by unfold okZ; simp)
          go_wp2_with fail
          refine (faults_any _).mono ?_
          rintro e wz ⟨gs, rfl, hgs, hst, hb⟩
          have HST := Lib.hid hst
          have HBz := Lib.hid ((below_drewN (Below.refl _ wr) nq).trans hb)
          clear hst hb
          go_wp2_with fail
          refine (in_any tx gs 10 faultsL _ (by decide) HST.out).mono ?_
          rintro e wy ⟨rfl, rfl⟩
          cases hv : inL tx faultsL
          all_goals
            rw [hv] at HV
            go_wp2_with fail
            go_meet
            exact ⟨congrArg Value.bool HV.out.symm, HBz⟩
        have f0 : (kd == 0) = false := by simpa using e0
        have f1 : (kd == 1) = false := by simpa using e1
        have f2 : (kd == 2) = false := by simpa using e2
        have f3 : (kd == 3) = false := by simpa using e3
        have f4 : (kd == 4) = false := by simpa using e4
        have f5 : (kd == 5) = false := by simpa using e5
        have f6 : (kd == 6) = false := by simpa using e6
        have HV : Hid (okZ last ⟨kd, tx, pl⟩ = false) := Lib.hid (by unfold okZ; simp [e0, e1, e2, e3, e4, e5, e6])
        clear e0 e1 e2 e3 e4 e5 e6
        go_wp2_with fail
        go_meet
        exact ⟨congrArg Value.bool HV.out.symm, Lib.hid (below_drewN (Below.refl _ _) _)⟩
      case rest =>
        obtain ⟨rfl, HB5⟩ := hcut
        have HB6 := Lib.hid (HBE.out.trans (HB5.out.mono HBE.out.size))
        clear HBE HB5
        cases ho : okZ last ⟨kd, tx, pl⟩
        · go_wp2_with fail
          go_ret
          exact mayPost_no HB6.out
        · cases hz : (kd != 0)
          · have HS : Hid (stepZ last ⟨kd, tx, pl⟩ = true) := Lib.hid (by unfold stepZ; rw [ho, hz]; simp)
            cases last
            all_goals
              go_wp2_with fail
              go_roundg (ts.length - (k + 1))
              case rel => exact ⟨k + 1, by omega, rfl, by go_num, Lib.hid (HOK2.out HS.out), HB6⟩
              case measure => rw [HGK.out]; omega
          · cases last
            · have HS : Hid (stepZ false ⟨kd, tx, pl⟩ = true) := Lib.hid (by unfold stepZ; rw [ho]; simp)
              go_wp2_with fail
              go_roundg (ts.length - (k + 1))
              case rel => exact ⟨k + 1, by omega, rfl, by go_num, Lib.hid (HOK2.out HS.out), HB6⟩
              case measure => rw [HGK.out]; omega
            · go_wp2_with fail
              go_ret
              exact mayPost_no HB6.out
    · have HOK3 : Hid (∀ j (h : j < ts.length), stepZ (decide (j + 1 = ts.length)) ts[j] = true) := Lib.hid (fun j h => HOK.out j h (by omega))
      clear HOK
      have hd : decide ((0 : Int) < (ts.length : Int)) = decide (0 < ts.length) := by
        rw [Bool.eq_iff_iff, decide_eq_true_eq, decide_eq_true_eq]; omega
      go_wp2_with fail
      go_ret
      exact mayPost_yes _ HBE.out (fun h => by simpa using h) HOK3.out
end Go.Proofs.YtcgdeoldgnjdeaaDoor
