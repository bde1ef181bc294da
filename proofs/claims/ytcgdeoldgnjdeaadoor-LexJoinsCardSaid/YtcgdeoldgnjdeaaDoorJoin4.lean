/-
  ref05.apart: what it returns.
-/
import Derived.Test.YtcgdeoldgnjdeaaDoorJoin1
namespace Go.Proofs.YtcgdeoldgnjdeaaDoor
open Go.RowKit

/-- two of the reference's tokens in boxes of the call's own -/
def TwoRef (w : World) (a b : RTok) (w' : World) : Prop := Lies w' w.heap.size 54 a.cells ∧ Lies w' (w.heap.size + 1) 54 b.cells ∧ Below w.heap.size w w'
theorem TwoRef.start (w : World) (a b : RTok) : TwoRef w a b ((w.alloc (.cells a.cells 54)).alloc (.cells b.cells 54)) :=
  ⟨(Lies.new w _ _).alloc _, by have := Lies.new (w.alloc (.cells a.cells 54)) 54 b.cells; simpa using this, ((Below.refl _ w).alloc (Nat.le_refl _) _).alloc (by simp) _⟩
theorem TwoRef.seen {w w' : World} {a b : RTok} (h : TwoRef w a b w') : w'.cell? ⟨w.heap.size, 0, none⟩ = some (.int .i64 a.kind) ∧ w'.cell? ⟨w.heap.size, 1, none⟩ = some (.string ⟨a.text.toArray⟩) ∧ w'.cell? ⟨w.heap.size, 2, none⟩ = some (.int .i64 a.place) ∧
    w'.cell? ⟨w.heap.size + 1, 0, none⟩ = some (.int .i64 b.kind) ∧ w'.cell? ⟨w.heap.size + 1, 1, none⟩ = some (.string ⟨b.text.toArray⟩) ∧ w'.cell? ⟨w.heap.size + 1, 2, none⟩ = some (.int .i64 b.place) ∧ w.heap.size + 1 < w'.heap.size :=
  ⟨h.1.cell 0, h.1.cell 1, h.1.cell 2, h.2.1.cell 0, h.2.1.cell 1, h.2.1.cell 2, h.2.1.lt⟩
theorem wordZ_not (k : Int) (h : wordZ k = true) : (k == 2) = false ∧ (k != 5) = true := by
  unfold wordZ at h
  simp only [Bool.or_eq_true, beq_iff_eq] at h
  constructor
  · rw [beq_eq_false_iff_ne]; omega
  · rw [bne_iff_ne]; omega
set_option maxRecDepth 100000 in
set_option maxHeartbeats 3200000 in
theorem rapart_any (a b : RTok) (w : World) (hb5 : b.kind = 5 → b.text ≠ []) :
    Calls Tryd.prog 89 #[.agg a.cells, .agg b.cells] w fun e w' => e = .returned (.bool (apartZ a b)) ∧ Below w.heap.size w w' := by
  have T0 := Lib.hid (TwoRef.start w a b)
  obtain ⟨ka, ta, pa⟩ := a
  obtain ⟨kb, tb, pb⟩ := b
  simp only [RTok.cells] at *
  obtain ⟨r, hr⟩ : ∃ r, apartZ ⟨ka, ta, pa⟩ ⟨kb, tb, pb⟩ = r := ⟨_, rfl⟩
  rw [hr]
  unfold apartZ at hr
  simp only at hr
  have HR := Lib.hid hr
  have HB5 := Lib.hid hb5
  clear hr hb5
  obtain ⟨g0, g1, g2, g3, g4, g5, g6⟩ := TwoRef.seen T0.out
  simp only at g0 g1 g2 g3 g4 g5
  have HBel := Lib.hid T0.out.2.2
  clear T0
  go_enter Tryd.func89, Tryd.ntmps89
  generalize hW : (w.alloc (.cells #[.int .i64 ka, .string ⟨ta.toArray⟩, .int .i64 pa] 54)).alloc (.cells #[.int .i64 kb, .string ⟨tb.toArray⟩, .int .i64 pb] 54) = W at *
  have HWW := Lib.hid hW
  clear hW
  go_upto_region 1 with fail
  rw [HWW.out]
  go_cut [5] (fun v wx => v = .bool (wordZ ka) ∧ W = wx)
  case first =>
    have HZ : Hid (wordZ ka = (ka == 1 || ka == 3 || ka == 4)) := Lib.hid rfl
    cases h1 : (ka == 1) <;> cases h3 : (ka == 3) <;> cases h4 : (ka == 4)
    all_goals
      rw [h1, h3, h4] at HZ
      go_wp2_with fail
      go_meet
      exact ⟨congrArg Value.bool (by rw [HZ.out]; rfl), rfl⟩
  case rest =>
    obtain ⟨rfl, rfl⟩ := hcut
    go_upto_region 2 with fail
    go_cut [6] (fun v wx => v = .bool (wordZ kb) ∧ W = wx)
    case first =>
      have HZ : Hid (wordZ kb = (kb == 1 || kb == 3 || kb == 4)) := Lib.hid rfl
      cases h1 : (kb == 1) <;> cases h3 : (kb == 3) <;> cases h4 : (kb == 4)
      all_goals
        rw [h1, h3, h4] at HZ
        go_wp2_with fail
        go_meet
        exact ⟨congrArg Value.bool (by rw [HZ.out]; rfl), rfl⟩
    case rest =>
      obtain ⟨rfl, rfl⟩ := hcut
      cases hwa : wordZ ka
      · rw [hwa, if_neg (by decide)] at HR
        cases h2 : (ka == 2)
        · rw [h2, if_neg (by decide)] at HR
          cases h5 : (ka != 5)
          · rw [h5, if_neg (by decide)] at HR
            cases b5 : (kb == 5)
            · have hz : ∀ set, begZ kb tb set = false := fun set => by unfold begZ; rw [b5]; rfl
              rw [hz, hz] at HR
              clear hz HB5
              by_cases e60 : ta = [60]
              · subst e60
                have HR2 : Hid (false = r) := Lib.hid HR.out
                cases b3 : (kb == 3)
                all_goals
                  go_wp2_with fail
                  go_ret
                  exact ⟨ret_bool HR2.out, HBel.out⟩
              by_cases e62 : ta = [62]
              · subst e62
                have HR2 : Hid (false = r) := Lib.hid HR.out
                cases b3 : (kb == 3)
                all_goals
                  go_wp2_with fail
                  go_ret
                  exact ⟨ret_bool HR2.out, HBel.out⟩
              have f60 : (ta == [60]) = false := by simpa using e60
              have f62 : (ta == [62]) = false := by simpa using e62
              rw [f60, f62] at HR
              clear e60 e62
              cases f35 : (ta == [35]) <;> cases b3 : (kb == 3)
              all_goals
                rw [f35, b3] at HR
                go_wp2_with fail
                go_ret
                exact ⟨ret_bool HR.out, HBel.out⟩
            · have hk5 : kb = 5 := by simpa using b5
              obtain ⟨c, t, rfl⟩ : ∃ c t, tb = c :: t := by
                cases tb with
                | nil => exact absurd rfl (HB5.out hk5)
                | cons c t => exact ⟨c, t, rfl⟩
              have b3 : (kb == 3) = false := by rw [hk5]; rfl
              have hz : ∀ set, begZ kb (c :: t) set = set.contains c := fun set => by unfold begZ; rw [b5]; simp
              rw [hz, hz, b3] at HR
              clear hz HB5 hk5
              have u61 := u8_beq c 61 61 rfl
              have u62 := u8_beq c 62 62 rfl
              have e61 : ([61, 62] : Bs).contains c = (c == 61 || c == 62) := by rw [Bool.eq_iff_iff]; simp
              have e62 : ([61] : Bs).contains c = (c == 61) := by rw [Bool.eq_iff_iff]; simp
              rw [e61, e62] at HR
              clear e61 e62
              by_cases c61 : c = 61
              · subst c61
                have HR1 : Hid ((if ta == [60] then true else if ta == [62] then true else if ta == [35] then false else false) = r) := Lib.hid (by rw [← HR.out]; rfl)
                clear HR u61 u62
                cases f60 : (ta == [60]) <;> cases f62 : (ta == [62]) <;> cases f35 : (ta == [35])
                all_goals
                  rw [f60, f62, f35] at HR1
                  go_wp2_with fail
                  go_ret
                  exact ⟨ret_bool HR1.out, HBel.out⟩
              · have n61 : (c == 61) = false := by simpa using c61
                rw [n61] at u61 HR
                cases n62 : (c == 62)
                all_goals
                  rw [n62] at u62 HR
                  clear c61
                  cases f60 : (ta == [60]) <;> cases f62 : (ta == [62]) <;> cases f35 : (ta == [35])
                  all_goals
                    rw [f60, f62, f35] at HR
                    go_wp2_with fail
                    go_ret
                    exact ⟨ret_bool HR.out, HBel.out⟩
          · rw [h5, if_pos rfl] at HR
            cases hwb : wordZ kb
            all_goals
              go_wp2_with fail
              go_ret
              exact ⟨ret_bool HR.out, HBel.out⟩
        · rw [h2, if_pos rfl] at HR
          have h5 : (ka != 5) = true := by rw [beq_iff_eq] at h2; rw [h2]; rfl
          cases hb2 : (kb == 2) <;> cases hwb : wordZ kb
          all_goals
            rw [hb2] at HR
            go_wp2_with fail
            go_ret
            exact ⟨ret_bool HR.out, HBel.out⟩
      · rw [hwa, if_pos rfl] at HR
        obtain ⟨h2, h5⟩ := wordZ_not ka hwa
        cases hwb : wordZ kb
        all_goals
          rw [hwb] at HR
          go_wp2_with fail
          go_ret
          exact ⟨ret_bool HR.out, HBel.out⟩
end Go.Proofs.YtcgdeoldgnjdeaaDoor
