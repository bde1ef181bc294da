/-
  csv.Read: what it returns.
-/
import Derived.Test.YteccjdclkcipbaaGreatDoorCsv16
namespace Go.Proofs.YteccjdclkcipbaaGreatDoor
open Go.RowKit Go.Shelf
attribute [local go_sem] Oper.semAt_some

def ReadPost (R : RRes) (w : World) (e : Ending) (w' : World) : Prop :=
  ∃ A c, e = .returned (.tuple #[.agg #[.int .i64 (R.1.1 : Int), .int .i64 (R.1.2.1 : Int), .slice A R.1.2.2.length c], .int .i64 (R.2.1 : Int), .int .i64 R.2.2]) ∧ VSl w' A R.1.2.2 ∧ Below w.heap.size w w'
theorem vsl_lies {w : World} {g : Nat} {t : TypeId} {vs : List Val} (h : Lies w g t (vcells vs).toArray) : VSl w (some ⟨g, 0, none⟩) vs := fun _ => by
  refine ⟨g, 0, rfl, h.lt, fun j hj => ?_⟩
  have k : ∀ i, w.cell? ⟨g, i, none⟩ = (vcells vs)[i]? := fun i => by
    rw [h.cell i, List.getElem?_toArray]
  obtain ⟨g0, g1, g2, g3, g4, g5⟩ := vcells_get vs j hj
  rw [Nat.zero_add, k, k, k, k, k, k]
  exact ⟨g0, g1, g2, g3, g4, g5⟩
theorem below_row {B g : Nat} {w0 w : World} (hb : Below B w0 w) (hg : B ≤ g) (cs : Array Value) : Below B w0 (w.setRow g cs) :=
  ⟨hb.os, hb.tape, hb.output, by rw [setRow_size]; exact hb.size, fun k hk => (setRow_other w g k cs (by omega)).trans (hb.block k hk)⟩
theorem stopIn {F : Fence} {n : Nat} {P : Program} {ops : Array Oper} {Q : Exit → Act → World → Prop} {l : List Oper} {a : Act} {w : World} (h : Hid (wpListIn F n P ops Q l a w)) : wpListIn F n P ops Q l a w := h.out
theorem fin_read {s : Bs} {w X : World} {q D n : Nat} {er : Int} {tmps : Array Value} (hq : q = w.heap.size) (hD : q + 6 ≤ D) (hK : X.heap[D]? = some (.deferred (some [])))
    (e2 : tmps[2]? = some (.pointer (some ⟨q, 0, none⟩))) (e3 : tmps[3]? = some (.pointer (some ⟨q + 1, 0, none⟩))) (e4 : tmps[4]? = some (.pointer (some ⟨q + 1 + 1, 0, none⟩)))
    (h1 : Lies X q 24 #[.int .i64 0, .int .i64 0, .slice none 0 0]) (h2 : Lies X (q + 1) 3 #[.int .i64 (n : Int)]) (h3 : Lies X (q + 2) 28 #[.int .i64 er]) (h4 : Below q w X) (h5 : cRead s = ((0, 0, []), n, er)) :
    LeavesInM Fence.wide 8 Tryz.prog Tryz.f11 tmps (ReadPost (cRead s) w) [{ target := .collected D, args := #[] }] .returning X := by
  have hg := grownBy_putObj' X D (.deferred none)
  have hr : ∀ r, some D = some r → ∃ o : Obj, X.heap[r]? = some o ∧ o.isCells = false := fun r e => by cases e; exact ⟨_, hK, rfl⟩
  have l0 := lies_other h1 hg hr
  have l1 := lies_other h2 hg hr
  have l2 := lies_other h3 hg hr
  have hb := below_other h4 (by omega) hg (fun r e => by cases e; omega)
  have y0 := l0.cell 0
  have y1 := l0.cell 1
  have y2 := l0.cell 2
  have y3 := l1.cell 0
  have y4 : (X.putObj D (.deferred none)).cell? ⟨q + 1 + 1, 0, none⟩ = _ := l2.cell 0
  simp only [List.getElem?_toArray, List.getElem?_cons_zero, List.getElem?_cons_succ] at y0 y1 y2 y3 y4
  refine ⟨by simp, .inl ⟨_, _, rfl, run_takeDeferred hK, ?_⟩⟩
  refine ⟨.tuple #[.agg #[.int .i64 0, .int .i64 0, .slice none 0 0], .int .i64 (n : Int), .int .i64 er], by simp [results, Tryz.results11, go_sem, e2, e3, e4, y0, y1, y2, y3, y4], none, 0, by rw [h5]; rfl, by rw [h5]; intro h; exact absurd h (Nat.lt_irrefl 0), by rw [← hq]; exact hb⟩
set_option maxRecDepth 100000 in
set_option maxHeartbeats 6400000 in
theorem read32_any (s : Bs) (w : World) (hl : s.length ≤ 1000000) (hT : Tab w) (hm : MaxVar w) :
    Calls Tryz.prog 11 #[.string ⟨s.toArray⟩] w (ReadPost (cRead s) w) := by
  refine (callsIn_wide (n := 8)).1 ?_
  have C0 := Lib.hid (fun X => (callsIn_wide (n := 7)).2 (lines_any s X))
  have HT := Lib.hid hT
  have HM := Lib.hid hm
  have hGq := maxVar_lt hm
  clear hT hm
  refine callsIn_of_wp_marks Tryz.func11 rfl trivial ?_ rfl
  simp only [Tryz.ntmps11, List.size_toArray, List.length_cons, List.length_nil, Nat.reduceAdd, Nat.reduceSub, Array.replicate_succ, Array.replicate_zero, List.push_toArray, List.append_toArray, List.nil_append, List.cons_append]
  gi_wp2_with fail
  refine ⟨trivial, ?_⟩
  refine (C0.out _).mono ?_
  rintro e w1 ⟨rfl, rfl⟩
  gi_wp2_with fail
  obtain ⟨W6, hW6⟩ : ∃ W6, W6 = (((((w.alloc (.cells #[.int .i64 0, .int .i64 0, .slice none 0 0] 24)).alloc (.cells #[.int .i64 0] 3)).alloc (.cells #[.int .i64 0] 28)).alloc (.cells #[.slice none 0 0] 52)).alloc (.cells #[.int .i64 0] 3)).alloc (.cells #[.string ⟨s.toArray⟩] 9) := ⟨_, rfl⟩
  have hb6 : Below w.heap.size w W6 := by
    rw [hW6]; exact ((((((Below.refl _ w).alloc (Nat.le_refl _) _).alloc (by simp only [World.size_alloc]; omega) _).alloc (by simp only [World.size_alloc]; omega) _).alloc (by simp only [World.size_alloc]; omega) _).alloc (by simp only [World.size_alloc]; omega) _).alloc (by simp only [World.size_alloc]; omega) _
  have hz6 : W6.heap.size = w.heap.size + 6 := by rw [hW6]; simp only [World.size_alloc]
  have l0 : Lies W6 w.heap.size 24 #[.int .i64 0, .int .i64 0, .slice none 0 0] := by
    rw [hW6]; exact (((((Lies.new w _ _).alloc _).alloc _).alloc _).alloc _).alloc _
  have l1 : Lies W6 (w.heap.size + 1) 3 #[.int .i64 0] := by
    rw [hW6]
    have h := Lies.new (w.alloc (.cells #[.int .i64 0, .int .i64 0, .slice none 0 0] 24)) 3 #[.int .i64 0]
    simp only [World.size_alloc] at h
    exact (((h.alloc _).alloc _).alloc _).alloc _
  have l2 : Lies W6 (w.heap.size + 2) 28 #[.int .i64 0] := by
    rw [hW6]
    have h := Lies.new ((w.alloc (.cells #[.int .i64 0, .int .i64 0, .slice none 0 0] 24)).alloc (.cells #[.int .i64 0] 3)) 28 #[.int .i64 0]
    simp only [World.size_alloc] at h
    exact ((h.alloc _).alloc _).alloc _
  have l3 : Lies W6 (w.heap.size + 3) 52 #[.slice none 0 0] := by
    rw [hW6]
    have h := Lies.new (((w.alloc (.cells #[.int .i64 0, .int .i64 0, .slice none 0 0] 24)).alloc (.cells #[.int .i64 0] 3)).alloc (.cells #[.int .i64 0] 28)) 52 #[.slice none 0 0]
    simp only [World.size_alloc] at h
    exact (h.alloc _).alloc _
  have l4 : Lies W6 (w.heap.size + 4) 3 #[.int .i64 0] := by
    rw [hW6]
    have h := Lies.new ((((w.alloc (.cells #[.int .i64 0, .int .i64 0, .slice none 0 0] 24)).alloc (.cells #[.int .i64 0] 3)).alloc (.cells #[.int .i64 0] 28)).alloc (.cells #[.slice none 0 0] 52)) 3 #[.int .i64 0]
    simp only [World.size_alloc] at h
    exact h.alloc _
  have c5 : W6.cell? ⟨w.heap.size + 5, 0, none⟩ = some (.string ⟨s.toArray⟩) := by
    rw [hW6]
    have h := Lies.new (((((w.alloc (.cells #[.int .i64 0, .int .i64 0, .slice none 0 0] 24)).alloc (.cells #[.int .i64 0] 3)).alloc (.cells #[.int .i64 0] 28)).alloc (.cells #[.slice none 0 0] 52)).alloc (.cells #[.int .i64 0] 3)) 9 #[.string ⟨s.toArray⟩]
    simp only [World.size_alloc] at h
    exact h.cell 0
  rw [← hW6]
  have hm6 : MaxVar W6 := HM.out.next hb6
  have hst : RdSt w w.heap.size [] W6 := ⟨_, [], 0, ⟨l0, l1, l2, l3, l4, VRowsAt.nil _ _, hb6⟩, CRel.nil⟩
  clear hW6 C0 l0 l1 l2 l3 l4 hb6
  generalize hq : w.heap.size = q at *
  have LI := lines1_in 7 (by decide) (q + 5) (q + 6) s W6 hl hm6 (by omega) c5 (by omega) (by omega)
  refine wpIn_rangeR rfl (by decide) (gf := 39) (lb := #[.pointer (some ⟨q + 5, 0, none⟩)]) rfl trivial (enters_of Tryz.func39 (by kernel_rfl) rfl) LI
    (fun p h => by rcases h with rfl | rfl <;> (dsimp only; omega))
    (fun pre x X Y row h hg hr => ⟨own_other h.1 hg (fun r e => (hr r e).2), h.2⟩)
    (fun _ => rfl)
    (RdSt w q) (RdStop w q s) (RdSt.own hq.symm (by omega)) (RdStop.own hq.symm (by omega)) hst
    (fun x => { tmps := #[.string ⟨s.toArray⟩, undef, .pointer (some ⟨q, 0, none⟩), .pointer (some ⟨q + 1, 0, none⟩), .pointer (some ⟨q + 1 + 1, 0, none⟩), .pointer (some ⟨q + 1 + 1 + 1, 0, none⟩), .pointer (some ⟨q + 1 + 1 + 1 + 1, 0, none⟩), x.v, .int .i64 x.er, undef, undef, undef, undef, undef, undef, undef, undef, undef, .string ⟨s.toArray⟩, .func (.func 39) #[] #[.pointer (some ⟨q + 1 + 1 + 1 + 1 + 1, 0, none⟩)], x.v, .int .i64 x.er, undef, undef, undef, undef, undef, undef, undef, undef, undef, undef, undef, undef, undef, undef, undef, undef, undef, undef, undef, undef, undef, undef, undef, undef, undef, undef, undef, undef, undef, undef, undef, undef, undef, undef, undef, undef, undef, undef, undef, undef, undef, undef, undef, undef, undef, undef, undef, undef, undef, undef, undef, undef, undef, undef, undef, undef, undef, undef, undef, undef, undef, undef, undef, undef, undef, undef, undef, undef, undef, undef, undef, undef, undef, undef, undef, undef, undef], defers := [] }) ?assign ?body ?done ?stop
  case assign =>
    intro l' x X K hK
    dsimp only [encsL]
    gi_wp2
    exact hK
  case body =>
    rintro l' pre x X hX hI hR
    obtain ⟨v, rows, cols, hC, hRel⟩ := hI
    obtain ⟨hown, hpre⟩ := hR
    have hbad := hRel.bad hpre
    obtain ⟨A, cap, rfl⟩ := hC.rows.slice
    obtain ⟨A1, cap1, hv1⟩ := own_slice hown
    obtain ⟨used, hok⟩ := hRel.1
    have hrl := hok.len
    have hqX : q + 6 ≤ X.heap.size := by omega
    obtain ⟨y0, y1, y2, y3, y4, y5, y6⟩ := hC.facts
    obtain ⟨f0, f1, f2, f3, f4, f5, f6⟩ := hC.froz
    have hw1 : wrap64 ((rows.length : Int) + 1) = (rows.length : Int) + 1 := wrap_s _ (by omega)
    have HC := Lib.hid hC
    have HRel := Lib.hid hRel
    have HOwn := Lib.hid hown
    have HPre := Lib.hid hpre
    have HBad := Lib.hid hbad
    have hq := Lib.hid hq
    clear hC hown hpre hbad LI hst hm6 c5 hz6 hX
    obtain ⟨xv, ws, er⟩ := x
    dsimp only at hv1 HBad
    subst hv1
    by_cases he : er = 0
    · subst he
      have hws := words_short HPre.out
      have hne := words_some HPre.out rfl
      dsimp only at hws hne
      have hn0 : 0 < ws.length := List.length_pos_iff.2 hne
      obtain ⟨g1, rfl⟩ : ∃ g1, A1 = some ⟨g1, 0, none⟩ := by
        obtain ⟨g, c, e⟩ := own_form HOwn.out hn0
        injection e with e
        exact ⟨g, e⟩
      obtain ⟨i1, gi, gz0, gz1, gz2⟩ := info_parts infoVal
      have HWs := Lib.hid hws.2
      have hwl : ws.length ≤ 1000000 := Nat.le_trans hws.1 hl
      rw [if_neg (by decide)] at HBad
      have H0 := Lib.hid (AlikeQ.refl q X)
      clear hws hne
      gi_wp2_with (gi_at_make; refine wpListIn_make_full _ rfl _ _ 22 rfl (q + 6) 38 i1 (.agg (valC ⟨0, 0, 0, [], false, 0⟩)) 6 Tryz.underlying22 gi gz0 gz1 .i64 .i64 _ _ ws.length rfl rfl rfl rfl ?c1 ?c2 ?c3 ?_)
      case c1 => omega
      case c2 => unfold maxLen; omega
      intro W1 hown1 hgrow1
      have hOV : VOwn W1 (q + 6) (.slice (some ⟨X.heap.size, 0, none⟩) ws.length ws.length) (mixB ws 0) := by
        rw [mixB_zero]
        unfold VOwn
        rw [← vcells_blanks, List.length_replicate]
        exact hown1
      have hbW := below_of_none hgrow1
      have HOV := Lib.hid hOV
      have HBW := Lib.hid hbW
      clear hown1 hgrow1 hbW hOV y0 y1 y2 y3 y4 y5 y6 f0 f1 f2 f3 f4 f5 f6
      gi_wp2_with fail
      gi_loopw [35] (fun v wr => ∃ i : Nat, v = .int .i64 (i : Int) ∧ i ≤ ws.length ∧ Hid ((ws.take i).all (fun w => (vMeant w).2) = true) ∧ Hid (Below X.heap.size X wr) ∧ Hid (VOwn wr (q + 6) (.slice (some ⟨X.heap.size, 0, none⟩) ws.length ws.length) (mixB ws i))) (fun v _ => ws.length - (intOf v).toNat)
      case atStart => exact ⟨0, rfl, Nat.zero_le _, Lib.hid (by simp), HBW, HOV⟩
      case round =>
        obtain ⟨i, rfl, hi, hall, hbr, HOV2⟩ := hrel
        have HOw2 := Lib.hid (own_next hbr.out HOwn.out)
        clear HBW HOV
        by_cases hlt : i < ws.length
        · obtain ⟨R, hR⟩ : ∃ R, vMeant ws[i] = R := ⟨_, rfl⟩
          have CM := Lib.hid (fun W h => ((callsIn_wide (n := 5)).2 (meant32_any ws[i] W (by have := HWs.out ws[i] (List.getElem_mem hlt); omega) h)).inRound l')
          rw [hR] at CM
          have HR := Lib.hid hR
          have yw : wr.cell? ⟨g1, i, none⟩ = some (.string ⟨ws[i].toArray⟩) := by
            rw [HOw2.out.cellAt i (by omega), List.getElem?_map, List.getElem?_eq_getElem hlt]
            rfl
          have HTr := Lib.hid (HT.out.next (hq.out ▸ (HC.out.next hbr.out).bel))
          obtain ⟨⟨k, m, e, tx, tr, f⟩, b⟩ := R
          simp only [valV, valC] at CM
          clear hR
          gi_wp2_with fail
          refine ⟨trivial, ?_⟩
          refine (CM.out _ HTr.out).mono ?_
          rintro z w2 ⟨rfl, hb⟩
          have hbx : Below w2.heap.size w2 (w2.alloc (.cells #[.int .i64 k, .int .i64 m, .int .i64 e, .string ⟨tx.toArray⟩, .bool tr, .int .i64 f] 38)) := (Below.refl _ w2).alloc (Nat.le_refl _) _
          have hb4 := (hbr.out.trans (hb.mono hbr.out.size)).trans (hbx.mono (Nat.le_trans hbr.out.size hb.size))
          have HB4 := Lib.hid hb4
          have HC4 := Lib.hid (HC.out.next hb4)
          have HOV4 := Lib.hid (own_next hbx (own_next hb HOV2.out))
          obtain ⟨y0, y1, y2, y3, y4, y5, y6⟩ := HC4.out.facts
          obtain ⟨f0, f1, f2, f3, f4, f5, f6⟩ := HC4.out.froz
          have hq4 : q + 6 ≤ (w2.alloc (.cells #[.int .i64 k, .int .i64 m, .int .i64 e, .string ⟨tx.toArray⟩, .bool tr, .int .i64 f] 38)).heap.size := Nat.le_trans hqX hb4.size
          clear hb hb4 HOw2 HOV2 CM yw HTr hbr hbx
          cases b
          · have hF := Lib.hid (HC4.out.fail hq4 (rows.length + 1) ((rows.length : Int) + 1) 14 (by simp) s (by
              rw [HBad.out, if_pos]
              rw [Bool.eq_false_iff]
              intro h
              have := List.all_eq_true.1 h ws[i] (List.getElem_mem hlt)
              rw [HR.out] at this
              cases this) (pre ++ [⟨.slice (some ⟨g1, 0, none⟩) ws.length cap1, ws, 0⟩]))
            clear HBad hall HOV4
            gi_wp2_with fail
            exact ⟨((AlikeQ.below hqX HB4.out).trans hF.out.2).far, hF.out.1⟩
          · have hall2 : Hid ((ws.take (i + 1)).all (fun w => (vMeant w).2) = true) := Lib.hid (by
              rw [List.take_succ_eq_append_getElem hlt, List.all_append, hall.out, Bool.true_and]
              simp [HR.out])
            have hlen6 : (vcells (mixB ws i)).length = ws.length * 6 := by rw [vcells_len, mixB_len ws i hi]
            have hml := mixB_len ws i hi
            have hOV4 := HOV4.out
            unfold VOwn at hOV4
            rw [hml] at hOV4
            have hj : i * 6 + 5 < ws.length * 6 := by omega
            have kc : ∀ k0, k0 < ws.length * 6 → ∃ u, (w2.alloc (.cells #[.int .i64 k, .int .i64 m, .int .i64 e, .string ⟨tx.toArray⟩, .bool tr, .int .i64 f] 38)).cell? ⟨X.heap.size, k0, none⟩ = some u := fun k0 hk0 => ⟨_, (hOV4.cellAt k0 hk0).trans (List.getElem?_eq_getElem (by rw [hlen6]; exact hk0))⟩
            obtain ⟨o0, z0⟩ := kc (i * 6) (by omega)
            obtain ⟨o1, z1⟩ := kc (i * 6 + 1) (by omega)
            obtain ⟨o2, z2⟩ := kc (i * 6 + 2) (by omega)
            obtain ⟨o3, z3⟩ := kc (i * 6 + 3) (by omega)
            obtain ⟨o4, z4⟩ := kc (i * 6 + 4) (by omega)
            obtain ⟨o5, z5⟩ := kc (i * 6 + 5) (by omega)
            have e0 := hOV4.frozenAt (i * 6)
            have e1 := hOV4.frozenAt (i * 6 + 1)
            have e2 := hOV4.frozenAt (i * 6 + 2)
            have e3 := hOV4.frozenAt (i * 6 + 3)
            have e4 := hOV4.frozenAt (i * 6 + 4)
            have e5 := hOV4.frozenAt (i * 6 + 5)
            have HV5 : Hid (VOwn (set6 (w2.alloc (.cells #[.int .i64 k, .int .i64 m, .int .i64 e, .string ⟨tx.toArray⟩, .bool tr, .int .i64 f] 38)) X.heap.size i ⟨k, m, e, tx, tr, f⟩) (q + 6) (.slice (some ⟨X.heap.size, 0, none⟩) ws.length ws.length) (mixB ws (i + 1))) := Lib.hid (by
              have h5 := set6_own hOV4 i ⟨k, m, e, tx, tr, f⟩ (by rw [hml]; exact hlt)
              have e5 := mixB_step ws i hlt
              rw [HR.out] at e5
              rw [e5] at h5
              unfold VOwn
              rw [mixB_len ws (i + 1) (by omega)]
              exact h5)
            have HB5 := Lib.hid (set6_below HB4.out (g := X.heap.size) (Nat.le_refl _) i ⟨k, m, e, tx, tr, f⟩)
            clear kc hOV4 hml hj y0 y1 y2 y3 y4 y5 y6 f0 f1 f2 f3 f4 f5 f6 HBad hlen6 HC4 HB4 HOV4
            gi_wp2_with fail
            go_roundw
            case rel => exact ⟨i + 1, by go_num, by omega, hall2, HB5, HV5⟩
            case measure => simp [intOf]; omega
        · obtain rfl : i = ws.length := by omega
          rw [mixB_all] at HOV2
          have hall2 : Hid (ws.all (fun w => (vMeant w).2) = true) := Lib.hid (by have := hall.out; rw [List.take_length] at this; exact this)
          have HC2 := Lib.hid (HC.out.next hbr.out)
          have hA2 := Lib.hid (AlikeQ.below hqX hbr.out)
          obtain ⟨us, hu1, hu2, hu3⟩ := HC2.out.rows
          have HU1 := Lib.hid hu1
          have HU2 := Lib.hid hu2
          have HU3 := Lib.hid hu3
          obtain ⟨i2, hi2, hz0, hz1, hz2⟩ := info_parts infoVals
          obtain ⟨y0, y1, y2, y3, y4, y5, y6⟩ := HC2.out.facts
          obtain ⟨f0, f1, f2, f3, f4, f5, f6⟩ := HC2.out.froz
          have hqr : q + 6 ≤ wr.heap.size := Nat.le_trans hqX hbr.out.size
          clear hall hbr hu1 hu2 hu3
          gi_wp2_with (gi_at_builtin; refine wpListIn_append_own _ rfl _ _ 52 rfl (q + 6) 22 i2 (.slice none 0 0) 1 24 Tryz.underlying52 hi2 hz0 hz1 hz2 rfl (by decide) _ rows.length us rfl (HU2.out.alloc _) ⟨wr.heap.size, 0, none⟩ 1 1 [.slice (some ⟨X.heap.size, 0, none⟩) ws.length ws.length] rfl rfl ?d1 ?d2 ?d3 ?d4 ?d5 ?_)
          try
            case d1 =>
              intro j u hj
              match j, hj with
              | 0, hj => simp at hj; subst hj; simp [Addr.add]
          try
            case d2 => first | rfl | (intro u hu; simp at hu; subst hu; rfl)
          try
            case d3 => unfold maxLen; omega
          try
            case d4 => omega
          try
            case d5 => simp; omega
          intro v' W2 hown' hgrow _
          obtain ⟨A', c', rfl⟩ := own_slice hown'
          obtain ⟨l0, l1, l2, l3, l4, hbW2, -⟩ := HC2.out.grow hq.out.symm hqr _ hgrow
          have HPu := Lib.hid (fun c2 : Nat => HC2.out.pushed (c2 := c2) hq.out.symm hqr _ hgrow us HU1.out HU2.out HU3.out HOV2.out hown')
          clear y0 y1 y2 y3 y4 y5 y6 f0 f1 f2 f3 f4 f5 f6
          have y0 : W2.cell? ⟨q, 0, none⟩ = some (.int .i64 0) := l0.cell 0
          have y1 : W2.cell? ⟨q, 1, none⟩ = some (.int .i64 0) := l0.cell 1
          have y2 : W2.cell? ⟨q, 2, none⟩ = some (.slice none 0 0) := l0.cell 2
          have y3 : W2.cell? ⟨q + 1, 0, none⟩ = some (.int .i64 0) := l1.cell 0
          have y4 : W2.cell? ⟨q + 1 + 1, 0, none⟩ = some (.int .i64 0) := l2.cell 0
          have y5 : W2.cell? ⟨q + 1 + 1 + 1, 0, none⟩ = some (.slice A rows.length cap) := l3.cell 0
          have y6 : W2.cell? ⟨q + 1 + 1 + 1 + 1, 0, none⟩ = some (.int .i64 (cols : Int)) := l4.cell 0
          have f0 : W2.frozen? ⟨q, 0, none⟩ = false := l0.frozen 0
          have f1 : W2.frozen? ⟨q, 1, none⟩ = false := l0.frozen 1
          have f2 : W2.frozen? ⟨q, 2, none⟩ = false := l0.frozen 2
          have f3 : W2.frozen? ⟨q + 1, 0, none⟩ = false := l1.frozen 0
          have f4 : W2.frozen? ⟨q + 1 + 1, 0, none⟩ = false := l2.frozen 0
          have f5 : W2.frozen? ⟨q + 1 + 1 + 1, 0, none⟩ = false := l3.frozen 0
          have f6 : W2.frozen? ⟨q + 1 + 1 + 1 + 1, 0, none⟩ = false := l4.frozen 0
          have HB2 := Lib.hid hbW2
          clear l0 l1 l2 l3 l4 hbW2 hown' hgrow HC2 HU1 HU2 HU3 HOV2
          have hcl := hok.cl
          rw [if_neg (by rw [hall2.out]; decide)] at HBad
          have HSt := Lib.hid (fun hs => HRel.out.step HPre.out rfl hall2.out hs)
          obtain ⟨M, hM⟩ : ∃ M : Nat, max cols ws.length = M := ⟨_, rfl⟩
          have hMz : max (cols : Int) (ws.length : Int) = (M : Int) := by omega
          have hMl : M ≤ 1004096 := by omega
          dsimp only at HSt
          rw [hM] at HBad HSt
          obtain ⟨P, hP⟩ : ∃ P : Nat, (rows.length + 1) * M = P := ⟨_, rfl⟩
          have hPz : ((rows.length : Int) + 1) * (M : Int) = (P : Int) := by rw [← hP]; simp
          have hPl : P ≤ 10000000000 := by
            have := Nat.mul_le_mul (show rows.length + 1 ≤ 4097 by omega) hMl
            omega
          have HM := Lib.hid hM
          rw [hP] at HBad HSt
          clear hM hP hok
          by_cases hP4 : 4096 < P
          · rw [if_pos hP4] at HBad
            have HPm := Lib.hid (HPu.out M)
            have hF := Lib.hid (HPm.out.1.fail (Nat.le_trans hqr HPm.out.2.size) (rows.length + 1) ((rows.length : Int) + 1) 5 (by simp) s HBad.out (pre ++ [⟨.slice (some ⟨g1, 0, none⟩) ws.length cap1, ws, 0⟩]))
            have hA3 := Lib.hid ((hA2.out.trans HPm.out.2).trans hF.out.2)
            clear HBad HPu HSt HPm
            gi_wp2_with fail
            exact ⟨hA3.out.far, hF.out.1⟩
          · have HPm := Lib.hid (HPu.out M)
            have HSt2 := Lib.hid (HSt.out hP4)
            have hA3 := Lib.hid (hA2.out.trans HPm.out.2)
            clear HBad HPu HSt
            gi_wp2_with fail
            exact ⟨hA3.out.far, hA3.out.at hGq _, _, _, _, HPm.out.1, HSt2.out⟩
    · have b0 : (er != 0) = true := by rw [bne_iff_ne]; exact he
      have hF := Lib.hid (HC.out.fail hqX (rows.length + 1) ((rows.length : Int) + 1) er (by simp) s (by rw [HBad.out, if_pos he]) (pre ++ [⟨.slice A1 ws.length cap1, ws, er⟩]))
      clear he HBad
      gi_wp2_with fail
      exact ⟨hF.out.2.far, hF.out.1⟩
  case done =>
    rintro D xs X hD hS ⟨v, rows, cols, hC, hRel⟩ hK
    have hfin : cRead s = cReadGo [] rows cols := by
      have := hRel.2 []
      rw [List.append_nil, hS] at this
      exact this
    obtain ⟨used, hok⟩ := hRel.1
    obtain ⟨A, cap, rfl⟩ := hC.rows.slice
    obtain ⟨y0, y1, y2, y3, y4, y5, y6⟩ := hC.facts
    obtain ⟨f0, f1, f2, f3, f4, f5, f6⟩ := hC.froz
    have hrl := hok.len
    have HC := Lib.hid hC
    have HOk := Lib.hid hok
    have HF := Lib.hid hfin
    have hKlt : D < X.heap.size := (Array.getElem?_eq_some_iff.1 hK).1
    clear hC hok hfin hRel hS LI hst hm6 c5
    by_cases h0 : rows = []
    · subst h0
      have hF := HC.out.fail (by omega) 1 1 13 rfl s (by rw [HF.out]; rfl) []
      have HFa := Lib.hid hF
      have hmK : (failW q 1 13 X).heap[D]? = some (.deferred (some [])) := by
        unfold failW
        rw [heap_setCell_other _ _ _ _ (by dsimp only; omega), heap_setCell_other _ _ _ _ (by dsimp only; omega), heap_setCell_other _ _ _ _ (by dsimp only; omega), heap_setCell_other _ _ _ _ (by dsimp only; omega), heap_setCell_other _ _ _ _ (by dsimp only; omega)]
        exact hK
      have HmK := Lib.hid hmK
      clear hF hmK
      gi_wp2_with fail
      obtain ⟨⟨-, n, er, h1, h2, h3, h4, h5⟩, -⟩ := HFa.out
      exact fin_read hq.symm (by omega) HmK.out rfl rfl rfl h1 h2 h3 h4 h5
    · obtain ⟨P, hP⟩ : ∃ P : Nat, rows.length * cols = P := ⟨_, rfl⟩
      have hPz : (rows.length : Int) * (cols : Int) = (P : Int) := by rw [← hP]; simp
      have hPl : P ≤ 4096 := by rw [← hP]; exact HOk.out.size
      have hr0 : 0 < rows.length := List.length_pos_iff.2 h0
      have hb0 : ((rows.length : Int) == 0) = false := by rw [beq_eq_false_iff_ne]; omega
      obtain ⟨cs, hcs, hmk⟩ := make_vals P (by omega)
      have HCs := Lib.hid hcs
      have HP := Lib.hid hP
      have hlt4 := HC.out.lt
      have hlt3 : q + 1 + 1 + 1 < X.heap.size := by omega
      have hwP : IntKind.i64.wrap (P : Int) = (P : Int) := IntWalk.i64_in _ (by omega)
      clear hcs hP h0
      gi_wp2
      refine wpIn_wide.2 ?_
      go_cut [15] from 73 to 82 (fun v wx => ∃ (bx g : Nat), v = .pointer (some ⟨bx, 0, none⟩) ∧ X.heap.size ≤ bx ∧ X.heap.size ≤ g ∧ bx ≠ g ∧ Hid (Lies wx bx 24 #[.int .i64 (rows.length : Int), .int .i64 (cols : Int), .slice (some ⟨g, 0, none⟩) P P]) ∧ Hid (Lies wx g 38 cs) ∧ Hid (Below X.heap.size X wx))
      case first =>
        clear y0 y1 y2 y3 y4 f0 f1 f2 f3 f4 f5 f6
        refine wp_region_inv' (by kernel_rfl) (by kernel_rfl) (fun a0 => 81 < a0.tmps.size ∧ a0.eval (.tmp 5) = .pointer (some ⟨q + 1 + 1 + 1, 0, none⟩) ∧ a0.eval (.tmp 6) = .pointer (some ⟨q + 1 + 1 + 1 + 1, 0, none⟩)) (RI X (.slice A rows.length cap) rows.length cols P cs) ⟨by simp, rfl, rfl⟩ (RI.start _ _ _ (Below.refl _ _).drew) ?_ ?_
        · rintro a0 ⟨hs, h5, h6⟩ listed a1 w1 i o hsz hI hun ho hdeps
          have hi := Up.of_false hun
          have hi11 : i < 11 := by rw [hsz] at hi; exact hi
          have z5 : w1.cell? ⟨q + 1 + 1 + 1, 0, none⟩ = some (.slice A rows.length cap) := (hI.bel.cell (p := ⟨q + 1 + 1 + 1, 0, none⟩) hlt3).trans y5
          have z6 : w1.cell? ⟨q + 1 + 1 + 1 + 1, 0, none⟩ = some (.int .i64 (cols : Int)) := (hI.bel.cell (p := ⟨q + 1 + 1 + 1 + 1, 0, none⟩) hlt4).trans y6
          have e5 : a1.eval (.tmp 5) = .pointer (some ⟨q + 1 + 1 + 1, 0, none⟩) := (hI.off.eval (by decide)).trans h5
          have e6 : a1.eval (.tmp 6) = .pointer (some ⟨q + 1 + 1 + 1 + 1, 0, none⟩) := (hI.off.eval (by decide)).trans h6
          clear h5 h6 y5 y6
          rcases (by omega : i = 0 ∨ i = 1 ∨ i = 2 ∨ i = 3 ∨ i = 4 ∨ i = 5 ∨ i = 6 ∨ i = 7 ∨ i = 8 ∨ i = 9 ∨ i = 10) with rfl | rfl | rfl | rfl | rfl | rfl | rfl | rfl | rfl | rfl | rfl
          · have ho2 := ho
            simp only [List.getElem?_toArray, List.getElem?_cons_zero, Option.some.injEq] at ho2
            subst ho2
            exact ri_pure (s := 73) (.slice A rows.length cap) hI hun ho rfl rfl (by omega) (by decide) (by decide) (by decide) (by decide) (tabR_eq (by simp)) (tabR_eq (by simp)) (by simp [execOp, go_sem, tget e5, z5])
          · have ho2 := ho
            simp only [List.getElem?_toArray, List.getElem?_cons_zero, List.getElem?_cons_succ, Option.some.injEq] at ho2
            subst ho2
            have d1 := hdeps _ (List.mem_toArray.2 (List.mem_cons_self ..)) rfl
            have p73 : a1.eval (.tmp 73) = (.slice A rows.length cap) := hI.pt (0, 73, (.slice A rows.length cap)) (by simp [tabR]) d1
            exact ri_pure (s := 74) (.int .i64 (rows.length : Int)) hI hun ho rfl rfl (by omega) (by decide) (by decide) (by decide) (by decide) (tabR_eq (by simp)) (tabR_eq (by simp)) (by simp [go_sem, tget p73])
          · have ho2 := ho
            simp only [List.getElem?_toArray, List.getElem?_cons_zero, List.getElem?_cons_succ, Option.some.injEq] at ho2
            subst ho2
            exact ri_pure (s := 75) (.int .i64 (cols : Int)) hI hun ho rfl rfl (by omega) (by decide) (by decide) (by decide) (by decide) (tabR_eq (by simp)) (tabR_eq (by simp)) (by simp [execOp, go_sem, tget e6, z6])
          · have ho2 := ho
            simp only [List.getElem?_toArray, List.getElem?_cons_zero, List.getElem?_cons_succ, Option.some.injEq] at ho2
            subst ho2
            exact ri_pure (s := 76) (.slice A rows.length cap) hI hun ho rfl rfl (by omega) (by decide) (by decide) (by decide) (by decide) (tabR_eq (by simp)) (tabR_eq (by simp)) (by simp [execOp, go_sem, tget e5, z5])
          · have ho2 := ho
            simp only [List.getElem?_toArray, List.getElem?_cons_zero, List.getElem?_cons_succ, Option.some.injEq] at ho2
            subst ho2
            have d1 := hdeps _ (List.mem_toArray.2 (List.mem_cons_self ..)) rfl
            have p76 : a1.eval (.tmp 76) = (.slice A rows.length cap) := hI.pt (3, 76, (.slice A rows.length cap)) (by simp [tabR]) d1
            exact ri_pure (s := 77) (.int .i64 (rows.length : Int)) hI hun ho rfl rfl (by omega) (by decide) (by decide) (by decide) (by decide) (tabR_eq (by simp)) (tabR_eq (by simp)) (by simp [go_sem, tget p76])
          · have ho2 := ho
            simp only [List.getElem?_toArray, List.getElem?_cons_zero, List.getElem?_cons_succ, Option.some.injEq] at ho2
            subst ho2
            exact ri_pure (s := 78) (.int .i64 (cols : Int)) hI hun ho rfl rfl (by omega) (by decide) (by decide) (by decide) (by decide) (tabR_eq (by simp)) (tabR_eq (by simp)) (by simp [execOp, go_sem, tget e6, z6])
          · have ho2 := ho
            simp only [List.getElem?_toArray, List.getElem?_cons_zero, List.getElem?_cons_succ, Option.some.injEq] at ho2
            subst ho2
            have d1 := hdeps _ (List.mem_toArray.2 (List.mem_cons_self ..)) rfl
            have d2 := hdeps _ (List.mem_toArray.2 (List.mem_cons_of_mem _ (List.mem_cons_self ..))) rfl
            have p77 : a1.eval (.tmp 77) = (.int .i64 (rows.length : Int)) := hI.pt (4, 77, (.int .i64 (rows.length : Int))) (by simp [tabR]) d1
            have p78 : a1.eval (.tmp 78) = (.int .i64 (cols : Int)) := hI.pt (5, 78, (.int .i64 (cols : Int))) (by simp [tabR]) d2
            exact ri_pure (s := 79) (.int .i64 (P : Int)) hI hun ho rfl rfl (by omega) (by decide) (by decide) (by decide) (by decide) (tabR_eq (by simp)) (tabR_eq (by simp)) (by simp [execOp, go_sem, tget p77, tget p78, hPz, hwP])
          · have ho2 := ho
            simp only [List.getElem?_toArray, List.getElem?_cons_zero, List.getElem?_cons_succ, Option.some.injEq] at ho2
            subst ho2
            have d1 := hdeps _ (List.mem_toArray.2 (List.mem_cons_self ..)) rfl
            have p79 : a1.eval (.tmp 79) = (.int .i64 (P : Int)) := hI.pt (6, 79, (.int .i64 (P : Int))) (by simp [tabR]) d1
            exact ri_make hI hun ho rfl rfl hs (fun W => by simp [execOp, go_sem, tget p79, hmk])
          · have ho2 := ho
            simp only [List.getElem?_toArray, List.getElem?_cons_zero, List.getElem?_cons_succ, Option.some.injEq] at ho2
            subst ho2
            have d1 := hdeps _ (List.mem_toArray.2 (List.mem_cons_self ..)) rfl
            have d2 := hdeps _ (List.mem_toArray.2 (List.mem_cons_of_mem _ (List.mem_cons_self ..))) rfl
            have d3 := hdeps _ (List.mem_toArray.2 (List.mem_cons_of_mem _ (List.mem_cons_of_mem _ (List.mem_cons_self ..)))) rfl
            have p74 : a1.eval (.tmp 74) = (.int .i64 (rows.length : Int)) := hI.pt (1, 74, (.int .i64 (rows.length : Int))) (by simp [tabR]) d1
            have p75 : a1.eval (.tmp 75) = (.int .i64 (cols : Int)) := hI.pt (2, 75, (.int .i64 (cols : Int))) (by simp [tabR]) d2
            obtain ⟨g, g1, -, -⟩ := hI.md d3
            exact ri_build hI hun ho rfl rfl hs d3 (by rw [g1]; simp [execOp, go_sem, tget p74, tget p75, tget g1])
          · have ho2 := ho
            simp only [List.getElem?_toArray, List.getElem?_cons_zero, List.getElem?_cons_succ, Option.some.injEq] at ho2
            subst ho2
            exact ri_alloc hI hun ho rfl rfl hs (fun W => by simp [execOp, go_sem])
          · have ho2 := ho
            simp only [List.getElem?_toArray, List.getElem?_cons_zero, List.getElem?_cons_succ, Option.some.injEq] at ho2
            subst ho2
            have d1 := hdeps _ (List.mem_toArray.2 (List.mem_cons_self ..)) rfl
            have d2 := hdeps _ (List.mem_toArray.2 (List.mem_cons_of_mem _ (List.mem_cons_self ..))) rfl
            exact ri_store hI hun ho rfl rfl d2 d1 (fun bx g1 g2 g3 g4 => by
              obtain ⟨g, g4⟩ := g4
              have c0 := g2.cell 0
              have c1 := g2.cell 1
              have c2 := g2.cell 2
              have k0 := g2.frozen 0
              have k1 := g2.frozen 1
              have k2 := g2.frozen 2
              simp at c0 c1 c2
              rw [g4] at g3
              simp [execOp, go_sem, tget g1, tget g3, tget g4, c0, c1, c2, k0, k1, k2])
        · intro listed a1 w1 hI hup
          have n10 : Up listed 10 := hup 10 (by decide)
          have n7 : Up listed 7 := hup 7 (by decide)
          have n9 : Up listed 9 := hup 9 (by decide)
          obtain ⟨g, g1, g2, g3⟩ := hI.md n7
          obtain ⟨bx, b1, b2, -, b4⟩ := hI.al n9
          have hl2 := b4 n10
          rw [g1] at hl2
          have hne : bx ≠ g := fun e => by
            subst e
            unfold Lies at g3 hl2
            rw [g3] at hl2
            injection hl2 with hl2
            injection hl2 with _ hl2 _
            exact absurd hl2 (by decide)
          have hbel := hI.bel
          obtain ⟨f, rfl, hf⟩ := hI.off.forms
          have h15 : f 15 = .pointer (some ⟨bx, 0, none⟩) := (hf 15).trans b1
          clear hI
          simp only [List.foldl, Act.put, List.setIfInBounds_toArray, List.set, h15]
          simp only [Exit.then]
          go_step
          go_meet
          exact ⟨bx, g, rfl, b2, g2, hne, Lib.hid hl2, Lib.hid g3, Lib.hid hbel⟩
      case rest =>
        obtain ⟨bx, g, rfl, hbx, hg0, hne, HLb, HLg, HBx⟩ := hcut
        obtain ⟨gA, rfl⟩ : ∃ gA, A = some ⟨gA, 0, none⟩ := by
          obtain ⟨us, hu1, hu2, hu3⟩ := HC.out.rows
          obtain ⟨g, c, e⟩ := own_form hu2 hr0
          injection e with e
          exact ⟨g, e⟩
        have HC9 := Lib.hid (HC.out.next HBx.out)
        clear hmk y0 y1 y2 y3 y4 y5 y6 f0 f1 f2 f3 f4 f5 f6
        obtain ⟨y0, y1, y2, y3, y4, y5, y6⟩ := HC9.out.facts
        obtain ⟨f0, f1, f2, f3, f4, f5, f6⟩ := HC9.out.froz
        gi_wp2_with fail
        gi_loopw [84] (fun v wr => ∃ i : Nat, v = .int .i64 (i : Int) ∧ i ≤ rows.length ∧ Hid (Below X.heap.size X wr) ∧ Hid (Lies wr bx 24 #[.int .i64 (rows.length : Int), .int .i64 (cols : Int), .slice (some ⟨g, 0, none⟩) P P]) ∧ Hid (Lies wr g 38 (vcells (fillA rows cols i)).toArray)) (fun v _ => rows.length - (intOf v).toNat)
        case atStart => exact ⟨0, rfl, Nat.zero_le _, HBx, HLb, Lib.hid (by rw [fillA_zero, HP.out, ← HCs.out]; exact HLg.out)⟩
        case round =>
          obtain ⟨i, rfl, hi, hbr, hlb, hlg⟩ := hrel
          have HC9 := Lib.hid (HC.out.next hbr.out)
          clear y0 y1 y2 y3 y4 y5 y6 f0 f1 f2 f3 f4 f5 f6 HBx HLb HLg
          obtain ⟨y0, y1, y2, y3, y4, y5, y6⟩ := HC9.out.facts
          obtain ⟨f0, f1, f2, f3, f4, f5, f6⟩ := HC9.out.froz
          by_cases hlt : i < rows.length
          · obtain ⟨us, hu1, hu2, hu3⟩ := HC9.out.rows
            have hlu : i < us.length := by omega
            have hown := hu3 i us[i] rows[i] (List.getElem?_eq_getElem hlu) (List.getElem?_eq_getElem hlt)
            have hlen := HOk.out.each rows[i] (List.getElem_mem hlt)
            obtain ⟨gu, cu, hue⟩ := own_form hown (by omega)
            have y82 : wr.cell? ⟨gA, i, none⟩ = some (.slice (some ⟨gu, 0, none⟩) rows[i].length cu) := by
              rw [hu2.cellAt i (by omega), List.getElem?_eq_getElem hlu, hue]
            rw [hue] at hown
            have HOw := Lib.hid hown
            have b0 := hlb.out.cell 0
            have b1 := hlb.out.cell 1
            have b2 := hlb.out.cell 2
            simp only [List.getElem?_toArray, List.getElem?_cons_zero, List.getElem?_cons_succ] at b0 b1 b2
            have him : i * cols + cols ≤ P := by
              have := Nat.mul_le_mul_right cols hlt
              rw [Nat.succ_mul, HP.out] at this
              exact this
            obtain ⟨M, hM⟩ : ∃ M : Nat, i * cols = M := ⟨_, rfl⟩
            have hMz : (i : Int) * (cols : Int) = (M : Int) := by rw [← hM]; simp
            have hwM : IntKind.i64.wrap (M : Int) = (M : Int) := IntWalk.i64_in _ (by omega)
            have HMe := Lib.hid hM
            rw [hM] at him
            clear hM hown hue hu3 hu2 hu1
            have hfl : (fillA rows cols i).length = P := by rw [fillA_len rows cols i (fun l hl => (HOk.out.each l hl).2) hi, HP.out]
            have hvl : (vcells rows[i]).length = rows[i].length * 6 := vcells_len _
            gi_wp2_with (refine wpListIn_copy_rows _ rfl _ _ 22 22 rfl 38 6 Tryz.underlying22 ?sz g (M * 6) (P - M) (P - M) ⟨gu, 0, none⟩ rows[i].length cu rfl rfl (vcells (fillA rows cols i)).toArray 38 hlg.out (vcells rows[i]) rows[i].length ?hk ?hn ?hsrc ?hfit (vcells_one _) ?_)
            case sz => kernel_rfl
            case hk => show min _ _ = _; omega
            case hn => exact hvl
            case hsrc =>
              intro j v hj
              have := HOw.out.cells (g := gu) rfl j v hj
              exact this
            case hfit =>
              have := vcells_len (fillA rows cols i)
              rw [List.size_toArray]
              omega
            intro W2 hW2
            have hstep := fillA_step rows cols i (fun l hl => (HOk.out.each l hl).2) hlt
            rw [HMe.out] at hstep
            have hW : W2 = wr.setRow g (vcells (fillA rows cols (i + 1))).toArray := by rw [← hstep]; simpa [List.append_assoc, hvl] using hW2.out
            have lg2 : Hid (Lies W2 g 38 (vcells (fillA rows cols (i + 1))).toArray) := Lib.hid (by rw [hW]; exact setRow_heap wr g _ _ _ _ hlg.out)
            have lb2 : Hid (Lies W2 bx 24 #[.int .i64 (rows.length : Int), .int .i64 (cols : Int), .slice (some ⟨g, 0, none⟩) P P]) := Lib.hid (by rw [hW]; exact (setRow_other wr g bx _ hne).trans hlb.out)
            have bb2 : Hid (Below X.heap.size X W2) := Lib.hid (by rw [hW]; exact below_row hbr.out hg0 _)
            clear hW hW2 hstep hlb hlg hbr y0 y1 y2 y3 y4 y5 y6 f0 f1 f2 f3 f4 f5 f6 b0 b1 b2 HOw y82
            gi_wp2_with fail
            go_roundw
            case rel => exact ⟨i + 1, by go_num, by omega, bb2, lb2, lg2⟩
            case measure => simp [intOf]; omega
          · obtain rfl : i = rows.length := by omega
            rw [fillA_all] at hlg
            have b0 := hlb.out.cell 0
            have b1 := hlb.out.cell 1
            have b2 := hlb.out.cell 2
            simp only [List.getElem?_toArray, List.getElem?_cons_zero, List.getElem?_cons_succ] at b0 b1 b2
            have HKr := Lib.hid ((hbr.out.block D (by have := (Array.getElem?_eq_some_iff.1 hK).1; exact this)).trans hK)
            gi_wp2_with fail
            have hqr : q + 6 ≤ D := by omega
            have hDq : ∀ k, k < q + 6 → D ≠ k := fun k hk e => by omega
            obtain ⟨W9, hW9⟩ : ∃ W9, W9 = (((((wr.setCell ⟨q, 0, none⟩ (.int .i64 (rows.length : Int))).setCell ⟨q, 1, none⟩ (.int .i64 (cols : Int))).setCell ⟨q, 2, none⟩ (.slice (some ⟨g, 0, none⟩) P P)).setCell ⟨q + 1, 0, none⟩ (.int .i64 0)).setCell ⟨q + 1 + 1, 0, none⟩ (.int .i64 0)) := ⟨_, rfl⟩
            have hgq : ∀ k, k < q + 6 → g ≠ k := fun k hk e => by omega
            have m0 : Lies W9 q 24 #[.int .i64 (rows.length : Int), .int .i64 (cols : Int), .slice (some ⟨g, 0, none⟩) P P] := by
              rw [hW9]
              exact lies_off (lies_off (((HC9.out.l0.put 0 (.int .i64 (rows.length : Int))).put 1 (.int .i64 (cols : Int))).put 2 (.slice (some ⟨g, 0, none⟩) P P)) (by omega) 0 _) (by omega) 0 _
            have m1 : Lies W9 (q + 1) 3 #[.int .i64 0] := by
              rw [hW9]
              exact lies_off ((lies_off (lies_off (lies_off HC9.out.l1 (by omega) 0 _) (by omega) 1 _) (by omega) 2 _).put 0 (.int .i64 0)) (by omega) 0 _
            have m2 : Lies W9 (q + 2) 28 #[.int .i64 0] := by
              rw [hW9]
              exact ((lies_off (lies_off (lies_off (lies_off HC9.out.l2 (by omega) 0 _) (by omega) 1 _) (by omega) 2 _) (by omega) 0 _).put 0 (.int .i64 0))
            have m3 : Lies W9 g 38 (vcells (padAll rows cols)).toArray := by
              rw [hW9]
              exact lies_off (lies_off (lies_off (lies_off (lies_off hlg.out (hgq _ (by omega)) 0 _) (hgq _ (by omega)) 1 _) (hgq _ (by omega)) 2 _) (hgq _ (by omega)) 0 _) (hgq _ (by omega)) 0 _
            have mb : Below q w W9 := by
              rw [hW9]
              exact below_set (below_set (below_set (below_set (below_set HC9.out.bel (Nat.le_refl _) 0 _) (Nat.le_refl _) 1 _) (Nat.le_refl _) 2 _) (by omega) 0 _) (by omega) 0 _
            have mK : W9.heap[D]? = some (.deferred (some [])) := by
              rw [hW9, heap_setCell_other _ _ _ _ (hDq (q + 1 + 1) (by omega)), heap_setCell_other _ _ _ _ (hDq (q + 1) (by omega)), heap_setCell_other _ _ _ _ (hDq q (by omega)), heap_setCell_other _ _ _ _ (hDq q (by omega)), heap_setCell_other _ _ _ _ (hDq q (by omega))]
              exact HKr.out
            rw [← hW9]
            clear hW9 hlg hlb hbr HKr HC9 y0 y1 y2 y3 y4 y5 y6 f0 f1 f2 f3 f4 f5 f6 b0 b1 b2
            have hg9 := grownBy_putObj' W9 D (.deferred none)
            have hr : ∀ r, some D = some r → ∃ o : Obj, W9.heap[r]? = some o ∧ o.isCells = false := fun r e => by cases e; exact ⟨_, mK, rfl⟩
            have n0 := lies_other m0 hg9 hr
            have n1 := lies_other m1 hg9 hr
            have n2 := lies_other m2 hg9 hr
            have n3 := lies_other m3 hg9 hr
            have hb := below_other mb (by omega) hg9 (fun r e => by cases e; omega)
            have z0 := n0.cell 0
            have z1 := n0.cell 1
            have z2 := n0.cell 2
            have z3 := n1.cell 0
            have z4 : (W9.putObj D (.deferred none)).cell? ⟨q + 1 + 1, 0, none⟩ = _ := n2.cell 0
            simp only [List.getElem?_toArray, List.getElem?_cons_zero, List.getElem?_cons_succ] at z0 z1 z2 z3 z4
            have hres : cRead s = ((rows.length, cols, padAll rows cols), 0, 0) := by
              rw [HF.out, cReadGo, if_neg (by rintro rfl; simp at hr0)]
            have hpl : (padAll rows cols).length = P := by rw [padAll_len cols rows (fun l hl => (HOk.out.each l hl).2)]; exact HP.out
            refine ⟨by simp, .inl ⟨_, _, rfl, run_takeDeferred mK, ?_⟩⟩
            refine ⟨.tuple #[.agg #[.int .i64 (rows.length : Int), .int .i64 (cols : Int), .slice (some ⟨g, 0, none⟩) P P], .int .i64 0, .int .i64 0], by simp [results, Tryz.results11, go_sem, z0, z1, z2, z3, z4], some ⟨g, 0, none⟩, P, by rw [hres]; simp only [hpl]; rfl, by rw [hres]; exact vsl_lies n3, by rw [hq]; exact hb⟩
  case stop =>
    rintro D c pre X hD hSp ⟨rfl, n, er, h1, h2, h3, h4, h5⟩ hK
    gi_wp2
    exact fin_read hq.symm (by omega) hK rfl rfl rfl h1 h2 h3 h4 h5
end Go.Proofs.YteccjdclkcipbaaGreatDoor
