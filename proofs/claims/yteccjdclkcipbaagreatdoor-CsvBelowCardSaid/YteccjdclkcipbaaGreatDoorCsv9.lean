/-
  csv.field, meant, word, Write; shape.Right; counterpanelaw32.awake.
-/
import Derived.Test.YteccjdclkcipbaaGreatDoorCsv2
import Derived.Test.YteccjdclkcipbaaGreatDoorVal12
import Derived.Test.YteccjdclkcipbaaGreatDoorNum11
import Derived.Test.YteccjdclkcipbaaGreatDoorBuild2
import Derived.Test.YteccjdclkcipbaaGreatDoorShownP
namespace Go.Proofs.YteccjdclkcipbaaGreatDoor
open Go.RowKit

def cQuote (v : Val) : Bool := atIs v.text 0 39 || !vSame (vRead v.text) v
/-- the word of a value -/
def cWord (v : Val) : Bs := if v.kind = 2 then (if cQuote v = true then 39 :: v.text else v.text) else vShow v
/-- the field that is a word -/
def cOut (w : Bs) : Bs := if uLen w < w.length then 34 :: (quoteB w ++ [34]) else w
/-- what a word means; false: it is too long -/
def vMeant (w : Bs) : Val × Bool :=
  if w = [] then (⟨0, 0, 0, [], false, 0⟩, true)
  else if atIs w 0 39 = true then (⟨2, 0, 0, w.drop 1, false, 0⟩, decide ((w.drop 1).length ≤ 255))
  else (vRead w, decide (w.length ≤ 255))
set_option maxRecDepth 100000 in
set_option maxHeartbeats 3200000 in
theorem field32_any (t : Bs) (w : World) (hl : t.length ≤ 1000000) (hm : MaxVar w) :
    Calls Tryz.prog 17 #[.string ⟨t.toArray⟩] w fun e w' => e = .returned (.string ⟨(cOut t).toArray⟩) ∧ Below w.heap.size w w' := by
  have CC := Lib.hid (fun W => contains4_any t W hl)
  have CR := Lib.hid (fun W h => replaceAll_any t W hl h)
  have HM := Lib.hid hm
  have hql := quoteB_len t
  have HO : Hid (cOut t = if uLen t < t.length then 34 :: (quoteB t ++ [34]) else t) := Lib.hid rfl
  generalize cOut t = out at *
  by_cases h : uLen t < t.length
  · rw [if_pos h] at HO
    rw [decide_eq_true h] at CC
    clear h hm
    generalize quoteB t = q at *
    go_enter Tryz.func17, Tryz.ntmps17
    go_wp2_with fail
    refine (CC.out _).mono ?_
    rintro e w1 ⟨rfl, hb⟩
    have HM1 := Lib.hid (HM.out.next hb)
    have HB := Lib.hid hb
    clear hb
    go_wp2_with fail
    refine (CR.out _ HM1.out).mono ?_
    rintro e w2 ⟨rfl, hb⟩
    have HB2 := Lib.hid (HB.out.trans (hb.mono HB.out.size))
    clear hb
    go_wp2_with fail
    go_ret
    exact ⟨by rw [HO.out]; simp, HB2.out⟩
  · rw [if_neg h] at HO
    rw [decide_eq_false h] at CC
    clear h hm CR
    go_enter Tryz.func17, Tryz.ntmps17
    go_wp2_with fail
    refine (CC.out _).mono ?_
    rintro e w1 ⟨rfl, hb⟩
    have HB := Lib.hid hb
    clear hb
    go_wp2_with fail
    go_ret
    exact ⟨by rw [HO.out]; rfl, HB.out⟩
set_option maxRecDepth 100000 in
set_option maxHeartbeats 3200000 in
theorem meant32_any (t : Bs) (w : World) (hl : t.length ≤ 1000000) (hT : Tab w) :
    Calls Tryz.prog 24 #[.string ⟨t.toArray⟩] w fun e w' => e = .returned (.tuple #[valV (vMeant t).1, .bool (vMeant t).2]) ∧ Below w.heap.size w w' := by
  have HL0 : Hid (Lies (w.alloc (.cells (valC ⟨0, 0, 0, [], false, 0⟩) 38)) w.heap.size 38 (valC ⟨0, 0, 0, [], false, 0⟩)) := Lib.hid (Lies.new w _ _)
  have HB0 : Hid (Below w.heap.size w (w.alloc (.cells (valC ⟨0, 0, 0, [], false, 0⟩) 38))) := Lib.hid ((Below.refl _ w).alloc (Nat.le_refl _) _)
  have HT := Lib.hid hT
  have HO : Hid (vMeant t = if t = [] then (⟨0, 0, 0, [], false, 0⟩, true) else if atIs t 0 39 = true then (⟨2, 0, 0, t.drop 1, false, 0⟩, decide ((t.drop 1).length ≤ 255)) else (vRead t, decide (t.length ≤ 255))) := Lib.hid rfl
  generalize vMeant t = out at *
  clear hT
  cases t with
  | nil =>
    rw [if_pos rfl] at HO
    go_enter Tryz.func24, Tryz.ntmps24
    go_wp2_with fail
    refine bodyPost_ret (v := .tuple #[.agg #[.int .i64 0, .int .i64 0, .int .i64 0, .string ⟨#[]⟩, .bool false, .int .i64 0], .bool true]) (by simp [results, Tryz.results24, go_sem]) rfl ?_
    exact ⟨by rw [HO.out], HB0.out⟩
  | cons c r =>
    rw [if_neg (by simp)] at HO
    have CP := Lib.hid (fun W => prefix1_any (c :: r) 39 W)
    cases h39 : atIs (c :: r) 0 39
    · rw [h39, if_neg (by decide)] at HO CP
      have CRd := Lib.hid (fun W h => read_any (c :: r) W hl h)
      generalize vRead (c :: r) = x at *
      obtain ⟨k, m, e, tx, tr, f⟩ := x
      generalize hT : c :: r = T at *
      have hne : T.isEmpty = false := by rw [← hT]; rfl
      have hne2 : ¬ T = [] := by rw [← hT]; simp
      clear hT h39
      go_enter Tryz.func24, Tryz.ntmps24
      go_wp2_with fail
      refine (CP.out _).mono ?_
      rintro z w1 ⟨rfl, rfl⟩
      go_wp2_with fail
      refine (CRd.out _ (HT.out.next HB0.out)).mono ?_
      rintro z w2 ⟨rfl, hb⟩
      have HL := Lib.hid (Lies.below HL0.out hb)
      have HB := Lib.hid (HB0.out.trans (hb.mono HB0.out.size))
      have RF := HL.out
      obtain ⟨r0, r1, r2, r3, r4, r5⟩ := (⟨RF.cell 0, RF.cell 1, RF.cell 2, RF.cell 3, RF.cell 4, RF.cell 5⟩ : _ ∧ _ ∧ _ ∧ _ ∧ _ ∧ _)
      simp only [valC, List.getElem?_toArray, List.getElem?_cons_zero, List.getElem?_cons_succ] at r0 r1 r2 r3 r4 r5
      have rf0 := RF.frozen 0
      have rf1 := RF.frozen 1
      have rf2 := RF.frozen 2
      have rf3 := RF.frozen 3
      have rf4 := RF.frozen 4
      have rf5 := RF.frozen 5
      have rlt := RF.lt
      clear RF hb HL0 HB0 CP CRd
      go_wp2_with fail
      refine bodyPost_ret (v := .tuple #[.agg #[.int .i64 k, .int .i64 m, .int .i64 e, .string ⟨tx.toArray⟩, .bool tr, .int .i64 f], .bool (decide ((T.length : Int) ≤ 255))]) (by simp [results, Tryz.results24, go_sem, r0, r1, r2, r3, r4, r5]) rfl ?_
      exact ⟨by rw [HO.out, show decide ((T.length : Int) ≤ 255) = decide (T.length ≤ 255) by rw [decide_eq_decide]; omega], (((((HB.out.setCell (p := ⟨_, _, none⟩) (Nat.le_refl _) _).setCell (p := ⟨_, _, none⟩) (Nat.le_refl _) _).setCell (p := ⟨_, _, none⟩) (Nat.le_refl _) _).setCell (p := ⟨_, _, none⟩) (Nat.le_refl _) _).setCell (p := ⟨_, _, none⟩) (Nat.le_refl _) _).setCell (p := ⟨_, _, none⟩) (Nat.le_refl _) _⟩
    · rw [h39, if_pos rfl] at HO CP
      generalize (c :: r).drop 1 = D at *
      generalize hT : c :: r = T at *
      have hne : T.isEmpty = false := by rw [← hT]; rfl
      have hne2 : ¬ T = [] := by rw [← hT]; simp
      obtain ⟨r0, r1, r2, r3, r4, r5⟩ := (⟨HL0.out.cell 0, HL0.out.cell 1, HL0.out.cell 2, HL0.out.cell 3, HL0.out.cell 4, HL0.out.cell 5⟩ : _ ∧ _ ∧ _ ∧ _ ∧ _ ∧ _)
      clear hT h39 r0 r1 r2 r3 r4 r5
      go_enter Tryz.func24, Tryz.ntmps24
      go_wp2_with fail
      refine (CP.out _).mono ?_
      rintro z w1 ⟨rfl, rfl⟩
      go_wp2_with fail
      refine bodyPost_ret (v := .tuple #[.agg #[.int .i64 2, .int .i64 0, .int .i64 0, .string ⟨D.toArray⟩, .bool false, .int .i64 0], .bool (decide ((D.length : Int) ≤ 255))]) (by simp [results, Tryz.results24, go_sem]) rfl ?_
      exact ⟨by rw [HO.out, show decide ((D.length : Int) ≤ 255) = decide (D.length ≤ 255) by rw [decide_eq_decide]; omega], (Below.refl _ _).alloc (Nat.le_refl _) _⟩
/-- a value's box, in a world that grew out of base W -/
def CIn (W : World) (q : Nat) (v : Val) (w' : World) : Prop :=
  w'.cell? ⟨q, 0, none⟩ = some (.int .i64 v.kind) ∧ w'.cell? ⟨q, 1, none⟩ = some (.int .i64 v.mant) ∧ w'.cell? ⟨q, 2, none⟩ = some (.int .i64 v.exp) ∧ w'.cell? ⟨q, 3, none⟩ = some (.string ⟨v.text.toArray⟩) ∧ w'.cell? ⟨q, 4, none⟩ = some (.bool v.truth) ∧ w'.cell? ⟨q, 5, none⟩ = some (.int .i64 v.fault) ∧ q < w'.heap.size ∧ Below W.heap.size W w'
theorem CIn.next {W : World} {q : Nat} {v : Val} {w w' : World} (h : CIn W q v w) (hb : Below w.heap.size w w') : CIn W q v w' := by
  obtain ⟨a1, a2, a3, a4, a5, a6, h1, b⟩ := h
  have hs := hb.size
  exact ⟨(hb.cell (p := ⟨_, _, none⟩) h1).trans a1, (hb.cell (p := ⟨_, _, none⟩) h1).trans a2, (hb.cell (p := ⟨_, _, none⟩) h1).trans a3, (hb.cell (p := ⟨_, _, none⟩) h1).trans a4, (hb.cell (p := ⟨_, _, none⟩) h1).trans a5, (hb.cell (p := ⟨_, _, none⟩) h1).trans a6, by omega, b.trans (hb.mono b.size)⟩
theorem prefix39 (t : Bs) : Lib.hasPrefix t [39] = atIs t 0 39 := by
  cases t with
  | nil => rfl
  | cons d r =>
    rw [hasPrefix_one]
    unfold atIs
    rw [List.getElem?_cons_zero, Bool.eq_iff_iff]
    simp
set_option maxRecDepth 100000 in
set_option maxHeartbeats 6400000 in
theorem word32_any (v : Val) (w : World) (hT : Tab w) (hP : PowTab w) (h1 : -9223372036854775808 ≤ v.mant) (h2 : v.mant ≤ 9223372036854775807) (hR : v.kind = 1 → pRight v.mant v.exp = true) (hl : v.text.length ≤ 1000000) :
    Calls Tryz.prog 18 #[valV v] w fun e w' => e = .returned (.string ⟨(cWord v).toArray⟩) ∧ Below w.heap.size w w' := by
  have hO : Hid (cWord v = if v.kind = 2 then (if cQuote v = true then 39 :: v.text else v.text) else vShow v) := Lib.hid rfl
  have CS := Lib.hid (fun W a b => show_any v W a b h1 h2 hR)
  have HB0 : Hid (Below w.heap.size w (w.alloc (.cells (valC v) 38))) := Lib.hid ((Below.refl _ w).alloc (Nat.le_refl _) _)
  have HL0 : Hid (Lies (w.alloc (.cells (valC v) 38)) w.heap.size 38 (valC v)) := Lib.hid (Lies.new w _ _)
  have HT := Lib.hid hT
  have HP := Lib.hid hP
  have hq : Hid (cQuote v = (atIs v.text 0 39 || !vSame (vRead v.text) v)) := Lib.hid rfl
  have CPf := Lib.hid (fun W => hasPrefix_any v.text [39] W)
  rw [prefix39] at CPf
  have CRd := Lib.hid (fun W h => read_any v.text W hl h)
  have CSm := Lib.hid (fun x W => same02_any x v W)
  generalize cQuote v = qq at *
  generalize vShow v = sh at *
  generalize cWord v = out at *
  clear hT hP h1 h2 hR
  obtain ⟨k, m, e, tx, tr, f⟩ := v
  dsimp only at hO hq CPf CRd hl
  by_cases hk : k = 2
  · rw [if_pos hk] at hO
    subst hk
    clear CS
    have T0 : Hid (CIn (w.alloc (.cells (valC ⟨2, m, e, tx, tr, f⟩) 38)) w.heap.size ⟨2, m, e, tx, tr, f⟩ (w.alloc (.cells (valC ⟨2, m, e, tx, tr, f⟩) 38))) := Lib.hid ⟨HL0.out.cell 0, HL0.out.cell 1, HL0.out.cell 2, HL0.out.cell 3, HL0.out.cell 4, HL0.out.cell 5, HL0.out.lt, Below.refl _ _⟩
    clear HL0
    go_enter Tryz.func18, Tryz.ntmps18
    go_upto_region 3 with fail
    generalize w.alloc (.cells (valC ⟨2, m, e, tx, tr, f⟩) 38) = W at *
    generalize hq0 : w.heap.size = q at *
    obtain ⟨y0, y1, y2, y3, y4, y5, y6, -⟩ := T0.out
    dsimp only at y0 y1 y2 y3 y4 y5
    go_cut [18] (fun b wx => b = .bool qq ∧ Hid (CIn W q ⟨2, m, e, tx, tr, f⟩ wx))
    case first =>
      cases h39 : atIs tx 0 39
      · rw [h39] at CPf hq
        rw [Bool.false_or] at hq
        have K1 : Hid (∀ W', Calls Tryz.prog 33 #[.string ⟨tx.toArray⟩, .string ⟨#[39]⟩] W' fun z w' => z = .returned (.bool false) ∧ Below W'.heap.size W' w') := Lib.hid (fun W' => (CPf.out W').mono (fun _ _ ⟨a, b⟩ => ⟨a, b ▸ Below.refl _ _⟩))
        have K2 : Hid (∀ W', Below W.heap.size W W' → Calls Tryz.prog 35 #[.string ⟨tx.toArray⟩] W' fun z w' => z = .returned (valV (vRead tx)) ∧ Below W'.heap.size W' w') := Lib.hid (fun W' hb => CRd.out W' ((HT.out.next (hq0 ▸ HB0.out)).next hb))
        have K3 : Hid (∀ W', Calls Tryz.prog 34 #[valV (vRead tx), .agg #[.int .i64 2, .int .i64 m, .int .i64 e, .string ⟨tx.toArray⟩, .bool tr, .int .i64 f]] W' fun z w' => z = .returned (.bool (vSame (vRead tx) ⟨2, m, e, tx, tr, f⟩)) ∧ Below W'.heap.size W' w') := Lib.hid (fun W' => CSm.out _ W')
        generalize vSame (vRead tx) ⟨2, m, e, tx, tr, f⟩ = sm at *
        generalize vRead tx = x at *
        clear y0 y1 y2 y3 y4 y5 y6 h39 CPf CRd CSm
        go_region_held3 (fun w' => w'.cell? ⟨q, 0, none⟩ = some (.int .i64 2) ∧ w'.cell? ⟨q, 1, none⟩ = some (.int .i64 m) ∧ w'.cell? ⟨q, 2, none⟩ = some (.int .i64 e) ∧ w'.cell? ⟨q, 3, none⟩ = some (.string ⟨tx.toArray⟩) ∧ w'.cell? ⟨q, 4, none⟩ = some (.bool tr) ∧ w'.cell? ⟨q, 5, none⟩ = some (.int .i64 f) ∧ q < w'.heap.size ∧ Below W.heap.size W w')
          (first | exact T0.out | exact T0.out.next (Below.refl _ _).drew | exact (CIn.next (CIn.next T0.out (Below.refl _ _).drew) hb) | (go_split_ands; exact (CIn.next (W := W) (v := ⟨2, m, e, tx, tr, f⟩) ⟨by assumption, by assumption, by assumption, by assumption, by assumption, by assumption, by assumption, by assumption⟩ hb)))
          (first
            | (go_at_call 33; (with_reducible refine (K1.out _).mono ?_); rintro z wx ⟨rfl, hb⟩)
            | (go_at_call 35; (with_reducible refine (K2.out _ ?hbw).mono ?_); (case hbw => (first | assumption | exact (Below.refl _ _).drew | (go_split_ands; assumption))); rintro z wx ⟨rfl, hb⟩)
            | (go_at_call 34; (with_reducible refine (K3.out _).mono ?_); rintro z wx ⟨rfl, hb⟩))
        all_goals go_wp2_with fail
        all_goals go_meet
        all_goals refine ⟨by rw [hq.out], Lib.hid ?_⟩
        all_goals first | exact ⟨by assumption, by assumption, by assumption, by assumption, by assumption, by assumption, by assumption, by assumption⟩ | (go_split_ands; exact ⟨by assumption, by assumption, by assumption, by assumption, by assumption, by assumption, by assumption, by assumption⟩)
      · rw [h39] at CPf hq
        have hqt : Hid (qq = true) := Lib.hid (by rw [hq.out, Bool.true_or])
        clear hq h39 CRd CSm
        first | go_quiet ((go_at_call 33; exact quiet_left (CPf.out _))) | fail
        go_wp2_with fail
        go_meet
        exact ⟨by rw [hqt.out], Lib.hid (T0.out.next (below_drewN (Below.refl _ _) nq))⟩
    case rest =>
      obtain ⟨rfl, hc⟩ := hcut
      clear y0 y1 y2 y3 y4 y5 y6 T0
      obtain ⟨y0, y1, y2, y3, y4, y5, y6, hbw⟩ := hc.out
      dsimp only at y0 y1 y2 y3 y4 y5
      have HBf := Lib.hid (HB0.out.trans (hbw.mono (hq0 ▸ HB0.out.size)))
      clear hbw hc CPf CRd CSm hq
      cases qq
      · go_wp2_with fail
        go_ret
        exact ⟨by rw [hO.out]; rfl, hq0 ▸ HBf.out⟩
      · go_wp2_with fail
        go_ret
        exact ⟨by rw [hO.out]; simp, hq0 ▸ HBf.out⟩
  · rw [if_neg hk] at hO
    have e2 : (k != 2) = true := by rw [bne_iff_ne]; exact hk
    clear hk hq CPf CRd CSm
    go_enter Tryz.func18, Tryz.ntmps18
    go_wp2_with fail
    refine (CS.out _ (HT.out.next HB0.out) (HP.out.next HB0.out)).mono ?_
    rintro z w1 ⟨rfl, hb⟩
    have HB := Lib.hid (HB0.out.trans (hb.mono HB0.out.size))
    clear hb
    go_wp2_with fail
    go_ret
    exact ⟨by rw [hO.out]; rfl, HB.out⟩
def pFits (r c : Int) : Bool := decide (1 ≤ r) && (decide (1 ≤ c) && (decide (r ≤ 4096) && decide (c ≤ 4096 / r)))
theorem fits_any (r c : Int) (w : World) (hr1 : -9223372036854775808 ≤ r) (hr2 : r ≤ 9223372036854775807) :
    Calls Tryz.prog 27 #[.int .i64 r, .int .i64 c] w fun e w' => e = .returned (.bool (pFits r c)) ∧ w = w' := by
  have hO : Hid (pFits r c = (decide (1 ≤ r) && (decide (1 ≤ c) && (decide (r ≤ 4096) && decide (c ≤ 4096 / r))))) := Lib.hid rfl
  generalize pFits r c = out at *
  by_cases h1 : 1 ≤ r
  · have hz : (r == 0) = false := by rw [beq_eq_false_iff_ne]; omega
    by_cases h2 : 1 ≤ c
    · by_cases h3 : r ≤ 4096
      · rw [decide_eq_true h1, decide_eq_true h2, decide_eq_true h3] at hO
        simp only [Bool.true_and] at hO
        go_enter Tryz.func27, Tryz.ntmps27
        go_wp2_with fail
        go_ret
        exact ⟨by rw [hO.out]; rfl, rfl⟩
      · rw [decide_eq_true h1, decide_eq_true h2, decide_eq_false h3] at hO
        go_enter Tryz.func27, Tryz.ntmps27
        go_wp2_with fail
        go_ret
        exact ⟨by rw [hO.out]; rfl, rfl⟩
    · rw [decide_eq_true h1, decide_eq_false h2] at hO
      go_enter Tryz.func27, Tryz.ntmps27
      go_wp2_with fail
      go_ret
      exact ⟨by rw [hO.out]; rfl, rfl⟩
  · rw [decide_eq_false h1] at hO
    go_enter Tryz.func27, Tryz.ntmps27
    go_wp2_with fail
    go_ret
    exact ⟨by rw [hO.out]; rfl, rfl⟩
/-- values in a row of memory -/
def VRow (W : World) (b off : Nat) (vs : List Val) : Prop := b < W.heap.size ∧ ∀ j (h : j < vs.length), W.cell? ⟨b, off + j * 6, none⟩ = some (.int .i64 vs[j].kind) ∧ W.cell? ⟨b, off + j * 6 + 1, none⟩ = some (.int .i64 vs[j].mant) ∧ W.cell? ⟨b, off + j * 6 + 2, none⟩ = some (.int .i64 vs[j].exp) ∧ W.cell? ⟨b, off + j * 6 + 3, none⟩ = some (.string ⟨vs[j].text.toArray⟩) ∧ W.cell? ⟨b, off + j * 6 + 4, none⟩ = some (.bool vs[j].truth) ∧ W.cell? ⟨b, off + j * 6 + 5, none⟩ = some (.int .i64 vs[j].fault)
def VSl (W : World) (A : Option Addr) (vs : List Val) : Prop := 0 < vs.length → ∃ b off, A = some ⟨b, off, none⟩ ∧ VRow W b off vs
theorem VRow.next {W W' : World} {b off : Nat} {vs : List Val} (h : VRow W b off vs) (hb : Below W.heap.size W W') : VRow W' b off vs := by
  refine ⟨Nat.lt_of_lt_of_le h.1 hb.size, fun j hj => ?_⟩
  obtain ⟨a0, a1, a2, a3, a4, a5⟩ := h.2 j hj
  have k : ∀ i, W'.cell? ⟨b, i, none⟩ = W.cell? ⟨b, i, none⟩ := fun i => hb.cell (p := ⟨b, i, none⟩) h.1
  exact ⟨(k _).trans a0, (k _).trans a1, (k _).trans a2, (k _).trans a3, (k _).trans a4, (k _).trans a5⟩
theorem VSl.next {W W' : World} {A : Option Addr} {vs : List Val} (h : VSl W A vs) (hb : Below W.heap.size W W') : VSl W' A vs := fun hp => by
  obtain ⟨b, off, e, hr⟩ := h hp
  exact ⟨b, off, e, hr.next hb⟩
/-- what the values of an array may be of which a walk speaks -/
def Val.sane (v : Val) : Prop := -9223372036854775808 ≤ v.mant ∧ v.mant ≤ 9223372036854775807 ∧ v.text.length ≤ 100000
def aRight (r c : Int) (vs : List Val) : Bool := pFits r c && (decide ((vs.length : Int) = r * c) && vs.all vRight)
theorem fits_nat {r c : Int} (h : pFits r c = true) : ∃ R C : Nat, r = R ∧ c = C ∧ 1 ≤ R ∧ 1 ≤ C ∧ R ≤ 4096 ∧ C ≤ 4096 ∧ R * C ≤ 4096 := by
  unfold pFits at h
  simp only [Bool.and_eq_true, decide_eq_true_eq] at h
  obtain ⟨h1, h2, h3, h4⟩ := h
  obtain ⟨R, rfl⟩ : ∃ R : Nat, r = R := ⟨r.toNat, by omega⟩
  obtain ⟨C, rfl⟩ : ∃ C : Nat, c = C := ⟨c.toNat, by omega⟩
  have h5 : C ≤ 4096 / R := by
    rw [show (4096 : Int) = ((4096 : Nat) : Int) from rfl, ← Int.natCast_ediv] at h4
    omega
  have h6 : R * C ≤ 4096 := by
    have := Nat.mul_le_mul_left R h5
    have h7 := Nat.mul_div_le 4096 R
    omega
  have h8 : 4096 / R ≤ 4096 := Nat.div_le_self _ _
  exact ⟨R, C, rfl, rfl, by omega, by omega, by omega, by omega, h6⟩
set_option maxRecDepth 100000 in
set_option maxHeartbeats 6400000 in
theorem shRight_any (r c : Int) (A : Option Addr) (cap : Nat) (vs : List Val) (w : World) (hr1 : -9223372036854775808 ≤ r) (hr2 : r ≤ 9223372036854775807) (hv : VSl w A vs) (hs : ∀ v ∈ vs, v.sane) :
    Calls Tryz.prog 14 #[.agg #[.int .i64 r, .int .i64 c, .slice A vs.length cap]] w fun e w' => e = .returned (.bool (aRight r c vs)) ∧ Below w.heap.size w w' := by
  have CF := Lib.hid (fun W => fits_any r c W hr1 hr2)
  have hO : Hid (aRight r c vs = (pFits r c && (decide ((vs.length : Int) = r * c) && vs.all vRight))) := Lib.hid rfl
  generalize aRight r c vs = out at *
  have HB0 : Hid (Below w.heap.size w (w.alloc (.cells #[.int .i64 r, .int .i64 c, .slice A vs.length cap] 24))) := Lib.hid ((Below.refl _ w).alloc (Nat.le_refl _) _)
  have HL0 : Hid (Lies (w.alloc (.cells #[.int .i64 r, .int .i64 c, .slice A vs.length cap] 24)) w.heap.size 24 #[.int .i64 r, .int .i64 c, .slice A vs.length cap]) := Lib.hid (Lies.new w _ _)
  have HV0 := Lib.hid (hv.next HB0.out)
  have HS := Lib.hid hs
  clear hv hs
  cases hf : pFits r c
  · rw [hf] at CF hO
    clear hf
    go_enter Tryz.func14, Tryz.ntmps14
    go_wp2_with fail
    refine (CF.out _).mono ?_
    rintro e w1 ⟨rfl, rfl⟩
    go_wp2_with fail
    go_ret
    exact ⟨by rw [hO.out]; rfl, HB0.out⟩
  · obtain ⟨R, C, rfl, rfl, hR1, hC1, hR2, hC2, hRC⟩ := fits_nat hf
    rw [hf, Bool.true_and] at hO
    rw [hf] at CF
    obtain ⟨M, hM⟩ : ∃ M : Nat, R * C = M := ⟨_, rfl⟩
    have hm : (R : Int) * (C : Int) = (M : Int) := by rw [← hM]; simp
    rw [hm] at hO
    rw [hM] at hRC
    clear hf hM
    by_cases hne : vs.length = M
    · have hb : (((vs.length : Nat) : Int) != (M : Int)) = false := by rw [bne_eq_false_iff_eq]; omega
      rw [decide_eq_true (by omega), Bool.true_and] at hO
      have HA0 : Hid (∀ v ∈ vs.take 0, vRight v = true) := Lib.hid (fun v h => by simp at h)
      have hMl : vs.length ≤ 4096 := by omega
      have HN := Lib.hid hne
      have x0 := HL0.out.cell 0
      have x1 := HL0.out.cell 1
      have x2 := HL0.out.cell 2
      simp only [List.getElem?_toArray, List.getElem?_cons_zero, List.getElem?_cons_succ] at x0 x1 x2
      clear hne
      go_enter Tryz.func14, Tryz.ntmps14
      go_wp2_with fail
      refine (CF.out _).mono ?_
      rintro e w1 ⟨rfl, rfl⟩
      clear CF
      go_wp2_with fail
      go_loopw [3, 24] (fun _ v wr => ∃ j : Nat, v = .int .i64 (j : Int) ∧ j ≤ vs.length ∧ Hid (∀ v ∈ vs.take j, vRight v = true) ∧ Hid (Below w.heap.size w wr) ∧ Hid (Below (w.alloc (.cells #[.int .i64 (R : Int), .int .i64 (C : Int), .slice A vs.length cap] 24)).heap.size (w.alloc (.cells #[.int .i64 (R : Int), .int .i64 (C : Int), .slice A vs.length cap] 24)) wr)) (fun _ v _ => vs.length - (intOf v).toNat)
      case atStart => exact ⟨0, rfl, Nat.zero_le _, HA0, HB0, Lib.hid (Below.refl _ _)⟩
      case round =>
        obtain ⟨j, rfl, hj, hall, hbel, hb2⟩ := hrel
        clear HA0 x0 x1 x2
        have HL := Lies.below HL0.out hb2.out
        have x2 := HL.cell 2
        simp only [List.getElem?_toArray, List.getElem?_cons_zero, List.getElem?_cons_succ] at x2
        by_cases hlt : j < vs.length
        · obtain ⟨b, off, rfl, hvr⟩ := HV0.out (by omega)
          obtain ⟨y0, y1, y2, y3, y4, y5⟩ := (hvr.next hb2.out).2 j hlt
          obtain ⟨s1, s2, s3⟩ := HS.out vs[j] (List.getElem_mem hlt)
          have CR := Lib.hid (fun W => vvRight_any vs[j] W s1 s2 (by omega))
          clear s1 s2 s3 hvr
          cases hrj : vRight vs[j]
          · rw [hrj] at CR
            have hr : Hid (vs.all vRight = false) := Lib.hid (by
              rw [Bool.eq_false_iff]
              intro h
              have := List.all_eq_true.1 h vs[j] (List.getElem_mem hlt)
              rw [hrj] at this; cases this)
            go_wp2_with fail
            refine (CR.out _).mono ?_
            rintro z w2 ⟨rfl, hbb⟩
            have HB2 := Lib.hid (hbel.out.trans (hbb.mono hbel.out.size))
            clear hbb
            go_wp2_with fail
            go_ret
            exact ⟨by rw [hO.out, hr.out]; rfl, HB2.out⟩
          · rw [hrj] at CR
            have hall2 : Hid (∀ v ∈ vs.take (j + 1), vRight v = true) := Lib.hid (fun v h => by
              rw [List.take_succ_eq_append_getElem hlt] at h
              rcases List.mem_append.1 h with h | h
              · exact hall.out v h
              · rw [List.mem_singleton.1 h]; exact hrj)
            clear hall
            go_wp2_with fail
            refine (CR.out _).mono ?_
            rintro z w2 ⟨rfl, hbb⟩
            have HB2 := Lib.hid (hbel.out.trans (hbb.mono hbel.out.size))
            have HB3 := Lib.hid (hb2.out.trans (hbb.mono hb2.out.size))
            clear hbb
            go_wp2_with fail
            go_roundw
            case rel => exact ⟨j + 1, by go_num, by omega, hall2, HB2, HB3⟩
            case measure => simp [intOf]; omega
        · have hr : Hid (vs.all vRight = true) := Lib.hid (by
            rw [List.all_eq_true]
            intro v hv
            exact hall.out v (by rw [List.take_of_length_le (by omega)]; exact hv))
          clear hall
          go_wp2_with fail
          go_ret
          exact ⟨by rw [hO.out, hr.out]; rfl, hbel.out⟩
    · have hb : (((vs.length : Nat) : Int) != (M : Int)) = true := by rw [bne_iff_ne]; omega
      rw [decide_eq_false (by omega)] at hO
      go_enter Tryz.func14, Tryz.ntmps14
      go_wp2_with fail
      refine (CF.out _).mono ?_
      rintro e w1 ⟨rfl, rfl⟩
      go_wp2_with fail
      go_ret
      exact ⟨by rw [hO.out]; rfl, HB0.out⟩
def cellW (vs : List Val) (k : Nat) : Bs := match vs[k]? with
  | some v => cOut (cWord v)
  | none => []
/-- the cells before j of the row that begins at base -/
def cCells (vs : List Val) (base : Nat) : Nat → Bs
  | 0 => []
  | j + 1 => cCells vs base j ++ ((if 0 < j then [44] else []) ++ cellW vs (base + j))
/-- the rows before i -/
def cLns (vs : List Val) (C : Nat) : Nat → Bs
  | 0 => []
  | i + 1 => cLns vs C i ++ (cCells vs (i * C) C ++ [10])
def cWrite (r c : Int) (vs : List Val) : Bs := if aRight r c vs = true then cLns vs c.toNat r.toNat else []
theorem show_short (v : Val) (hR : vRight v = true) (h2 : v.kind ≠ 2) : (vShow v).length ≤ 1000 := by
  rcases kinds_right' hR with h | h | h | h | h
  · have hs : vShow v = [] := by
      unfold vShow vToText
      rw [if_neg (by omega), if_neg (by omega), if_neg (by omega), if_neg (by omega), if_neg (by omega)]
    rw [hs]; simp
  · have k := vRight_num v h
    rw [hR] at k
    have k1 := (Bool.and_eq_true_iff.1 k.symm).1
    have hs : vShow v = nText v.mant v.exp := by
      unfold vShow vToText
      rw [if_neg (by omega), if_pos h]
    rw [hs]
    rcases Nat.lt_or_ge 255 (nText v.mant v.exp).length with hl | hl
    · have hp := parse_text _ _ k1
      unfold pParse at hp
      rw [if_pos hl] at hp
      cases hp
    · omega
  · exact absurd h h2
  · have hs : vShow v = if v.truth then yesB else noB := by
      unfold vShow vToText
      rw [if_neg (by omega), if_neg (by omega), if_neg (by omega), if_pos h]
    rw [hs]
    split <;> decide
  · have hs : vShow v = pFaultText v.fault := by
      unfold vShow
      rw [if_pos h]
    rw [hs]
    by_cases hf : 1 ≤ v.fault ∧ v.fault ≤ 9
    · have := (read_fault _ hf.1 hf.2).2.2.2
      omega
    · have : pFaultText v.fault = [] := if_neg hf
      rw [this]; simp
theorem cWord_len (v : Val) (hs : v.sane) (hR : vRight v = true) : (cWord v).length ≤ 100001 := by
  have h3 := hs.2.2
  unfold cWord
  by_cases h : v.kind = 2
  · rw [if_pos h]
    split
    · rw [List.length_cons]; omega
    · omega
  · rw [if_neg h]
    have := show_short v hR h
    omega
theorem cOut_len (w : Bs) : (cOut w).length ≤ 2 * w.length + 2 := by
  unfold cOut
  have := quoteB_len w
  split
  · simp only [List.length_cons, List.length_append, List.length_nil]; omega
  · omega
theorem cellW_len (vs : List Val) (k : Nat) (h : ∀ v ∈ vs, v.sane ∧ vRight v = true) : (cellW vs k).length ≤ 300000 := by
  unfold cellW
  split
  · next v hv =>
    obtain ⟨hs, hR⟩ := h v (List.mem_of_getElem? hv)
    have := cOut_len (cWord v)
    have := cWord_len v hs hR
    omega
  · simp
theorem cCells_len (vs : List Val) (h : ∀ v ∈ vs, v.sane ∧ vRight v = true) (base : Nat) : ∀ j, (cCells vs base j).length ≤ j * 300001
  | 0 => by simp [cCells]
  | j + 1 => by
    have h1 := cCells_len vs h base j
    have h2 := cellW_len vs (base + j) h
    rw [cCells, List.length_append, List.length_append]
    have h3 : (if 0 < j then ([44] : Bs) else []).length ≤ 1 := by split <;> simp
    omega
theorem cLns_len (vs : List Val) (h : ∀ v ∈ vs, v.sane ∧ vRight v = true) (C : Nat) : ∀ i, (cLns vs C i).length ≤ i * C * 300001 + i
  | 0 => by simp [cLns]
  | i + 1 => by
    have h1 := cLns_len vs h C i
    have h2 := cCells_len vs h (i * C) C
    rw [cLns, List.length_append, List.length_append, List.length_singleton, Nat.add_mul]
    omega
theorem aRight_yes {r c : Int} {vs : List Val} (h : aRight r c vs = true) : pFits r c = true ∧ (vs.length : Int) = r * c ∧ ∀ v ∈ vs, vRight v = true := by
  unfold aRight at h
  simp only [Bool.and_eq_true, decide_eq_true_eq, List.all_eq_true] at h
  exact ⟨h.1, h.2.1, h.2.2⟩
theorem row_lt {i j R C : Nat} (hi : i < R) (hj : j < C) : i * C + j < R * C := by
  have : (i + 1) * C ≤ R * C := Nat.mul_le_mul_right C hi
  rw [Nat.add_mul] at this
  omega
set_option maxRecDepth 100000 in
set_option maxHeartbeats 6400000 in
theorem write32_any (r c : Int) (A : Option Addr) (cap : Nat) (vs : List Val) (w : World) (hr1 : -9223372036854775808 ≤ r) (hr2 : r ≤ 9223372036854775807) (hv : VSl w A vs) (hs : ∀ v ∈ vs, v.sane) (hT : Tab w) (hP : PowTab w) (hm : MaxVar w) :
    Calls Tryz.prog 8 #[.agg #[.int .i64 r, .int .i64 c, .slice A vs.length cap]] w fun e w' => e = .returned (.string ⟨(cWrite r c vs).toArray⟩) ∧ Below w.heap.size w w' := by
  have hO : Hid (cWrite r c vs = if aRight r c vs = true then cLns vs c.toNat r.toNat else []) := Lib.hid rfl
  generalize cWrite r c vs = out at *
  have HB0 : Hid (Below w.heap.size w (w.alloc (.cells #[.int .i64 r, .int .i64 c, .slice A vs.length cap] 24))) := Lib.hid ((Below.refl _ w).alloc (Nat.le_refl _) _)
  have HL0 : Hid (Lies (w.alloc (.cells #[.int .i64 r, .int .i64 c, .slice A vs.length cap] 24)) w.heap.size 24 #[.int .i64 r, .int .i64 c, .slice A vs.length cap]) := Lib.hid (Lies.new w _ _)
  have HV0 := Lib.hid (hv.next HB0.out)
  have HT0 := Lib.hid (hT.next HB0.out)
  have HP0 := Lib.hid (hP.next HB0.out)
  have HM0 := Lib.hid (hm.next HB0.out)
  have CR := Lib.hid (fun W h => shRight_any r c A cap vs W hr1 hr2 h hs)
  have HS := Lib.hid hs
  clear hv hs hT hP hm
  have x0 := HL0.out.cell 0
  have x1 := HL0.out.cell 1
  have x2 := HL0.out.cell 2
  simp only [List.getElem?_toArray, List.getElem?_cons_zero, List.getElem?_cons_succ] at x0 x1 x2
  cases hR : aRight r c vs
  · rw [hR] at CR
    rw [hR, if_neg (by simp)] at hO
    clear hR HS
    go_enter Tryz.func8, Tryz.ntmps8
    go_wp2_with fail
    refine (CR.out _ HV0.out).mono ?_
    rintro e w1 ⟨rfl, hb⟩
    have HB1 := Lib.hid (HB0.out.trans (hb.mono HB0.out.size))
    clear hb
    go_wp2_with fail
    go_ret
    exact ⟨by rw [hO.out]; rfl, HB1.out⟩
  · rw [hR] at CR
    rw [hR, if_pos rfl] at hO
    obtain ⟨hf, hlen, hall⟩ := aRight_yes hR
    obtain ⟨R, C, rfl, rfl, hR1, hC1, hR2, hC2, hRC⟩ := fits_nat hf
    have HA : Hid (∀ v ∈ vs, v.sane ∧ vRight v = true) := Lib.hid (fun v h => ⟨HS.out v h, hall v h⟩)
    have hlen2 : vs.length = R * C := by
      have : ((R * C : Nat) : Int) = (R : Int) * (C : Int) := by simp
      omega
    have HLn := Lib.hid hlen2
    have HRC := Lib.hid hRC
    have HC1 := Lib.hid hC1
    have HC2 := Lib.hid hC2
    have HR2 := Lib.hid hR2
    rw [Int.toNat_natCast, Int.toNat_natCast] at hO
    clear hR hf hlen hall hlen2 hRC HS hr1 hr2
    go_enter Tryz.func8, Tryz.ntmps8
    go_wp2_with fail
    refine (CR.out _ HV0.out).mono ?_
    rintro e w1 ⟨rfl, hb⟩
    have HB1 := Lib.hid (HB0.out.trans (hb.mono HB0.out.size))
    have HL1 := Lib.hid (Lies.below HL0.out hb)
    have HV1 := Lib.hid (HV0.out.next hb)
    have HT1 := Lib.hid (HT0.out.next hb)
    have HP1 := Lib.hid (HP0.out.next hb)
    have HM1 := Lib.hid (HM0.out.next hb)
    clear hb CR HB0 HL0 HV0 HT0 HP0 HM0 x0 x1 x2
    have x0 := HL1.out.cell 0
    have x1 := HL1.out.cell 1
    have x2 := HL1.out.cell 2
    simp only [List.getElem?_toArray, List.getElem?_cons_zero, List.getElem?_cons_succ] at x0 x1 x2
    have hlt1 : w.heap.size < w1.heap.size := HL1.out.lt
    go_wp2_with fail
    go_loopw [11] (fun v wr => ∃ i : Nat, v = .int .i64 (i : Int) ∧ i ≤ R ∧ Hid (Lib.IsBuilder 42 5 w1.heap.size w1.heap.size (Lib.byteCells (cLns vs C i)) wr) ∧ Hid (Below w1.heap.size w1 wr)) (fun v _ => R - (intOf v).toNat)
    case atStart => exact ⟨0, rfl, Nat.zero_le _, Lib.hid (Lib.fresh_isBuilder _ _ w1), Lib.hid ((Below.refl _ w1).alloc (Nat.le_refl _) _)⟩
    case round =>
      obtain ⟨wo, rfl⟩ : ∃ wo : World, wo = wr := ⟨_, rfl⟩
      obtain ⟨i, rfl, hi, hB, hbel⟩ := hrel
      clear x0 x1 x2
      have HLo := Lib.hid (Lies.below HL1.out hbel.out)
      have x0 := HLo.out.cell 0
      have x1 := HLo.out.cell 1
      have x2 := HLo.out.cell 2
      simp only [List.getElem?_toArray, List.getElem?_cons_zero, List.getElem?_cons_succ] at x0 x1 x2
      by_cases hlt : i < R
      · obtain ⟨q, hq⟩ : ∃ q : Nat, i * C = q := ⟨_, rfl⟩
        have hqm : (i : Int) * (C : Int) = (q : Int) := by rw [← hq]; simp
        have hC1 := HC1.out
        have hqc : q + C ≤ 4096 := by
          have := row_lt (j := C - 1) (C := C) hlt (by omega)
          have := HRC.out
          omega
        have hql : ∀ j, j < C → q + j < vs.length := fun j hj => by
          have := row_lt hlt hj
          have := HLn.out
          omega
        have HQl := Lib.hid hql
        have HQC := Lib.hid hqc
        have hll : (cLns vs C i).length ≤ q * 300001 + i := by have := cLns_len vs HA.out C i; rw [hq] at this; exact this
        have hnx : Hid (cLns vs C (i + 1) = cLns vs C i ++ (cCells vs q C ++ [10])) := Lib.hid (by rw [cLns, hq])
        generalize cLns vs C i = L at *
        clear hql
        go_wp2_with fail
        go_loopw [16] (fun v wr => ∃ j : Nat, v = .int .i64 (j : Int) ∧ j ≤ C ∧ Hid (Lib.IsBuilder 42 5 w1.heap.size w1.heap.size (Lib.byteCells (L ++ cCells vs q j)) wr) ∧ Hid (Below w1.heap.size w1 wr)) (fun v _ => C - (intOf v).toNat)
        case atStart => exact ⟨0, rfl, Nat.zero_le _, Lib.hid (by rw [cCells, List.append_nil]; exact hB.out), hbel⟩
        case round =>
          obtain ⟨j, rfl, hj, hB2, hbel2⟩ := hrel
          clear x0 x1 x2 hB hbel HLo
          have HLo := Lib.hid (Lies.below HL1.out hbel2.out)
          have x0 := HLo.out.cell 0
          have x1 := HLo.out.cell 1
          have x2 := HLo.out.cell 2
          simp only [List.getElem?_toArray, List.getElem?_cons_zero, List.getElem?_cons_succ] at x0 x1 x2
          have hcl := cCells_len vs HA.out q j
          by_cases hjt : j < C
          · have hk := HQl.out j hjt
            obtain ⟨b, off, rfl, hvr⟩ := HV1.out (by omega)
            obtain ⟨hsn, hvR⟩ := HA.out vs[q + j] (List.getElem_mem hk)
            have CW := Lib.hid (fun W a b => word32_any vs[q + j] W a b hsn.1 hsn.2.1 (fun h => by
              have k := vRight_num vs[q + j] h
              rw [hvR] at k
              exact (Bool.and_eq_true_iff.1 k.symm).1) (by have := hsn.2.2; omega))
            have hwl := cWord_len _ hsn hvR
            have CF := Lib.hid (fun W h => field32_any (cWord vs[q + j]) W (by omega) h)
            have hol := cellW_len vs (q + j) HA.out
            have hcw : Hid (cellW vs (q + j) = cOut (cWord vs[q + j])) := Lib.hid (by unfold cellW; rw [List.getElem?_eq_getElem hk])
            have hnx2 : Hid (cCells vs q (j + 1) = cCells vs q j ++ ((if 0 < j then [44] else []) ++ cOut (cWord vs[q + j]))) := Lib.hid (by rw [cCells, hcw.out])
            rw [hcw.out] at hol
            have HVR := Lib.hid hvr
            clear hcw hwl hvr
            generalize cOut (cWord vs[q + j]) = o at *
            generalize cWord vs[q + j] = wd at *
            generalize hcx : cCells vs q j = cc at *
            rw [← hcx] at hcl
            rw [hcx] at hcl
            clear hcx
            by_cases hj0 : 0 < j
            · rw [if_pos hj0] at hnx2
              have hd : decide ((0 : Int) < (j : Int)) = true := decide_eq_true (by omega)
              go_wp2_with fail
              refine (writeByte_any w1.heap.size w1.heap.size (L ++ cc) 44 _ hB2.out (by rw [List.length_append]; omega) hbel2.out.size).mono ?_
              rintro e w2 ⟨rfl, hb1, hb2⟩
              have HB3 := Lib.hid hb1
              have HW3 := Lib.hid (hbel2.out.trans hb2)
              clear hb1 hb2 hB2 hbel2 x0 x1 x2 HLo
              have HLo := Lib.hid (Lies.below HL1.out HW3.out)
              have x0 := HLo.out.cell 0
              have x1 := HLo.out.cell 1
              have x2 := HLo.out.cell 2
              simp only [List.getElem?_toArray, List.getElem?_cons_zero, List.getElem?_cons_succ] at x0 x1 x2
              obtain ⟨y0, y1, y2, y3, y4, y5⟩ := (HVR.out.next HW3.out).2 (q + j) hk
              go_wp2_with fail
              refine (CW.out _ (HT1.out.next HW3.out) (HP1.out.next HW3.out)).mono ?_
              rintro e w4 ⟨rfl, hb⟩
              have HB4 := Lib.hid (IsBuilder.next HB3.out hb)
              have HW4 := Lib.hid (HW3.out.trans (hb.mono HW3.out.size))
              clear hb HB3 HW3 y0 y1 y2 y3 y4 y5 x0 x1 x2 HLo
              go_wp2_with fail
              refine (CF.out _ (HM1.out.next HW4.out)).mono ?_
              rintro e w5 ⟨rfl, hb⟩
              have HB5 := Lib.hid (IsBuilder.next HB4.out hb)
              have HW5 := Lib.hid (HW4.out.trans (hb.mono HW4.out.size))
              clear hb HB4 HW4
              go_wp2_with fail
              refine (writeString_any w1.heap.size w1.heap.size (L ++ cc ++ [44]) o _ HB5.out (by rw [List.length_append, List.length_append, List.length_singleton]; omega) HW5.out.size).mono ?_
              rintro e w6 ⟨rfl, hb1, hb2⟩
              have HB6 := Lib.hid hb1
              have HW6 := Lib.hid (HW5.out.trans hb2)
              clear hb1 hb2 HB5 HW5
              go_wp2_with fail
              go_roundw
              case rel => exact ⟨j + 1, by go_num, by omega, Lib.hid (by rw [hnx2.out]; have := HB6.out; simpa [List.append_assoc] using this), HW6⟩
              case measure => simp [intOf]; omega
            · rw [if_neg hj0] at hnx2
              have hd : decide ((0 : Int) < (j : Int)) = false := decide_eq_false (by omega)
              obtain ⟨y0, y1, y2, y3, y4, y5⟩ := (HVR.out.next hbel2.out).2 (q + j) hk
              go_wp2_with fail
              refine (CW.out _ (HT1.out.next hbel2.out) (HP1.out.next hbel2.out)).mono ?_
              rintro e w4 ⟨rfl, hb⟩
              have HB4 := Lib.hid (IsBuilder.next hB2.out hb)
              have HW4 := Lib.hid (hbel2.out.trans (hb.mono hbel2.out.size))
              clear hb hB2 hbel2 y0 y1 y2 y3 y4 y5 x0 x1 x2 HLo
              go_wp2_with fail
              refine (CF.out _ (HM1.out.next HW4.out)).mono ?_
              rintro e w5 ⟨rfl, hb⟩
              have HB5 := Lib.hid (IsBuilder.next HB4.out hb)
              have HW5 := Lib.hid (HW4.out.trans (hb.mono HW4.out.size))
              clear hb HB4 HW4
              go_wp2_with fail
              refine (writeString_any w1.heap.size w1.heap.size (L ++ cc) o _ HB5.out (by rw [List.length_append]; omega) HW5.out.size).mono ?_
              rintro e w6 ⟨rfl, hb1, hb2⟩
              have HB6 := Lib.hid hb1
              have HW6 := Lib.hid (HW5.out.trans hb2)
              clear hb1 hb2 HB5 HW5
              go_wp2_with fail
              go_roundw
              case rel => exact ⟨j + 1, by go_num, by omega, Lib.hid (by rw [hnx2.out, List.nil_append, ← List.append_assoc]; exact HB6.out), HW6⟩
              case measure => simp [intOf]; omega
          · have hjC : j = C := by omega
            subst hjC
            go_wp2_with fail
            refine (writeByte_any w1.heap.size w1.heap.size (L ++ cCells vs q j) 10 _ hB2.out (by rw [List.length_append]; omega) hbel2.out.size).mono ?_
            rintro e w2 ⟨rfl, hb1, hb2⟩
            have HB3 := Lib.hid hb1
            have HW3 := Lib.hid (hbel2.out.trans hb2)
            clear hb1 hb2 hB2 hbel2 x0 x1 x2 HLo
            go_wp2_with fail
            go_roundw
            case rel => exact ⟨i + 1, by go_num, by omega, Lib.hid (by rw [hnx.out, ← List.append_assoc]; exact HB3.out), HW3⟩
            case measure => simp [intOf]; omega
      · have hiR : i = R := by omega
        subst hiR
        go_wp2_with fail
        refine (Tryz.Builder_String_any w1.heap.size w1.heap.size (cLns vs C i) _ hB.out hbel.out.size).mono ?_
        rintro e w2 ⟨rfl, hb⟩
        have HB2 := Lib.hid hb
        clear hb
        go_wp2_with fail
        go_ret
        exact ⟨by rw [hO.out]; rfl, HB1.out.trans ((hbel.out.trans HB2.out).mono HB1.out.size)⟩
def awakeL : List Val := [⟨1, 1, 0, [], false, 0⟩, ⟨2, 0, 0, [97, 44, 98], false, 0⟩, ⟨2, 0, 0, [84, 82, 85, 69], false, 0⟩]
def awakeC : Array Value := #[.int .i64 1, .int .i64 1, .int .i64 0, .string ⟨#[]⟩, .bool false, .int .i64 0, .int .i64 2, .int .i64 0, .int .i64 0, .string ⟨#[97, 44, 98]⟩, .bool false, .int .i64 0, .int .i64 2, .int .i64 0, .int .i64 0, .string ⟨#[84, 82, 85, 69]⟩, .bool false, .int .i64 0]
theorem awakeL_out : cWrite 1 3 awakeL = [49, 44, 34, 97, 44, 98, 34, 44, 39, 84, 82, 85, 69, 10] := by decide +kernel
theorem awakeL_sane : ∀ v ∈ awakeL, v.sane := by
  unfold awakeL Val.sane
  simp
set_option maxRecDepth 100000 in
theorem awake32_any (w : World) (hT : Tab w) (hP : PowTab w) (hm : MaxVar w) :
    Calls Tryz.prog 6 #[] w fun x w' => x = .returned (.bool true) ∧ Below w.heap.size w w' := by
  have HT := Lib.hid hT
  have HP := Lib.hid hP
  have HM := Lib.hid hm
  clear hT hP hm
  go_enter Tryz.func6, Tryz.ntmps6
  go_wp2_with fail
  generalize hq : w.heap.size = q at *
  obtain ⟨W1, hW1⟩ : ∃ W1, W1 = w.alloc (.cells awakeC 38) := ⟨_, rfl⟩
  obtain ⟨W2, hW2⟩ : ∃ W2, W2 = W1.alloc (.cells #[.int .i64 1, .int .i64 3, .slice (some ⟨q, 0, none⟩) 3 3] 24) := ⟨_, rfl⟩
  have hb1 : Below w.heap.size w W1 := by rw [hW1]; exact (Below.refl _ w).alloc (Nat.le_refl _) _
  have hl1 : Lies W1 w.heap.size 38 awakeC := by rw [hW1]; exact Lies.new w _ _
  have hb2 : Below W1.heap.size W1 W2 := by rw [hW2]; exact (Below.refl _ W1).alloc (Nat.le_refl _) _
  have hl2 := Lies.below hl1 hb2
  have hb : Below w.heap.size w W2 := hb1.trans (hb2.mono hb1.size)
  have hv : VSl W2 (some ⟨q, 0, none⟩) awakeL := fun _ => ⟨q, 0, rfl, by rw [← hq]; exact hl2.lt, fun j hj => by
    rw [← hq]
    have k := fun i => hl2.cell i
    rcases j with _ | _ | _ | j
    · exact ⟨k 0, k 1, k 2, k 3, k 4, k 5⟩
    · exact ⟨k 6, k 7, k 8, k 9, k 10, k 11⟩
    · exact ⟨k 12, k 13, k 14, k 15, k 16, k 17⟩
    · exact absurd hj (by show ¬ j + 3 < 3; omega)⟩
  have hw := write32_any 1 3 (some ⟨q, 0, none⟩) 3 awakeL W2 (by decide) (by decide) hv awakeL_sane (HT.out.next hb) (HP.out.next hb) (HM.out.next hb)
  rw [awakeL_out] at hw
  have HB := Lib.hid hb
  rw [show (w.alloc (Obj.cells #[Value.int IntKind.i64 1, Value.int IntKind.i64 1, Value.int IntKind.i64 0, Value.string { data := #[] }, Value.bool false, Value.int IntKind.i64 0, Value.int IntKind.i64 2, Value.int IntKind.i64 0, Value.int IntKind.i64 0, Value.string { data := #[97, 44, 98] }, Value.bool false, Value.int IntKind.i64 0, Value.int IntKind.i64 2, Value.int IntKind.i64 0, Value.int IntKind.i64 0, Value.string { data := #[84, 82, 85, 69] }, Value.bool false, Value.int IntKind.i64 0] 38)) = W1 from hW1.symm, ← hW2]
  clear hb hb1 hb2 hl1 hl2 hv hW1 hW2
  refine hw.mono ?_
  rintro e w1 ⟨rfl, hb⟩
  have HB1 := Lib.hid (HB.out.trans (hb.mono HB.out.size))
  clear hb hw
  go_wp2_with fail
  go_ret
  exact ⟨by rfl, hq ▸ HB1.out⟩
end Go.Proofs.YteccjdclkcipbaaGreatDoor
