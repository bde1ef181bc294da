/-
  csv.field, meant, word, Write; shape.Right; counterpanelaw32.awake.
-/
import Derived.Test.YtpdaloohgfnbhaaGreatDoorCsv2
import Derived.Test.YtpdaloohgfnbhaaGreatDoorVal12
import Derived.Test.YtpdaloohgfnbhaaGreatDoorNum11
import Derived.Test.YtpdaloohgfnbhaaGreatDoorBuild2
import Derived.Test.YtpdaloohgfnbhaaGreatDoorShownP
namespace Go.Proofs.YtpdaloohgfnbhaaGreatDoor
open Go.RowKit

def cQuote (v : Val) : Bool := atIs v.text 0 39 || !vSame (vRead v.text) v
/-- the word of a value -/
def cWord (v : Val) : Bs := if v.kind = 2 then (if cQuote v = true then 39 :: v.text else v.text) else vShow v
/-- the field that is a word -/
def cOut (w : Bs) : Bs := if uLen w < w.length then 34 :: (quoteB w ++ [34]) else w
/-- what a word means; false: it is too long -/
def vMeant (w : Bs) : Val × Bool :=
  if w = [] then (⟨0, 0, 0, [], false, 0⟩, true)
  else if atIs w 0 39 = true then (⟨2, 0, 0, w.drop 1, false, 0⟩, decide ((w.drop 1).length ≤ 255))
  else (vRead w, decide (w.length ≤ 255))
/-- a value's box, in a world that grew out of base W -/
def CIn (W : World) (q : Nat) (v : Val) (w' : World) : Prop :=
  w'.cell? ⟨q, 0, none⟩ = some (.int .i64 v.kind) ∧ w'.cell? ⟨q, 1, none⟩ = some (.int .i64 v.mant) ∧ w'.cell? ⟨q, 2, none⟩ = some (.int .i64 v.exp) ∧ w'.cell? ⟨q, 3, none⟩ = some (.string ⟨v.text.toArray⟩) ∧ w'.cell? ⟨q, 4, none⟩ = some (.bool v.truth) ∧ w'.cell? ⟨q, 5, none⟩ = some (.int .i64 v.fault) ∧ q < w'.heap.size ∧ Below W.heap.size W w'
theorem CIn.next {W : World} {q : Nat} {v : Val} {w w' : World} (h : CIn W q v w) (hb : Below w.heap.size w w') : CIn W q v w' := by
  obtain ⟨a1, a2, a3, a4, a5, a6, h1, b⟩ := h
  have hs := hb.size
  exact ⟨(hb.cell (p := ⟨_, _, none⟩) h1).trans a1, (hb.cell (p := ⟨_, _, none⟩) h1).trans a2, (hb.cell (p := ⟨_, _, none⟩) h1).trans a3, (hb.cell (p := ⟨_, _, none⟩) h1).trans a4, (hb.cell (p := ⟨_, _, none⟩) h1).trans a5, (hb.cell (p := ⟨_, _, none⟩) h1).trans a6, by omega, b.trans (hb.mono b.size)⟩
theorem prefix39 (t : Bs) : Lib.hasPrefix t [39] = atIs t 0 39 := by
  cases t with
  | nil => rfl
  | cons d r =>
    rw [hasPrefix_one]
    unfold atIs
    rw [List.getElem?_cons_zero, Bool.eq_iff_iff]
    simp
def pFits (r c : Int) : Bool := decide (1 ≤ r) && (decide (1 ≤ c) && (decide (r ≤ 4096) && decide (c ≤ 4096 / r)))
theorem fits_any (r c : Int) (w : World) (hr1 : -9223372036854775808 ≤ r) (hr2 : r ≤ 9223372036854775807) :
    Calls Tryz.prog 50 #[.int .i64 r, .int .i64 c] w fun e w' => e = .returned (.bool (pFits r c)) ∧ w = w' := by
  have hO : Hid (pFits r c = (decide (1 ≤ r) && (decide (1 ≤ c) && (decide (r ≤ 4096) && decide (c ≤ 4096 / r))))) := Lib.hid rfl
  generalize pFits r c = out at *
  by_cases h1 : 1 ≤ r
  · have hz : (r == 0) = false := by rw [beq_eq_false_iff_ne]; omega
    by_cases h2 : 1 ≤ c
    · by_cases h3 : r ≤ 4096
      · rw [decide_eq_true h1, decide_eq_true h2, decide_eq_true h3] at hO
        simp only [Bool.true_and] at hO
        go_enter Tryz.func50, Tryz.ntmps50
        go_wp2_with fail
        go_ret
        exact ⟨by rw [hO.out]; rfl, rfl⟩
      · rw [decide_eq_true h1, decide_eq_true h2, decide_eq_false h3] at hO
        go_enter Tryz.func50, Tryz.ntmps50
        go_wp2_with fail
        go_ret
        exact ⟨by rw [hO.out]; rfl, rfl⟩
    · rw [decide_eq_true h1, decide_eq_false h2] at hO
      go_enter Tryz.func50, Tryz.ntmps50
      go_wp2_with fail
      go_ret
      exact ⟨by rw [hO.out]; rfl, rfl⟩
  · rw [decide_eq_false h1] at hO
    go_enter Tryz.func50, Tryz.ntmps50
    go_wp2_with fail
    go_ret
    exact ⟨by rw [hO.out]; rfl, rfl⟩
/-- values in a row of memory -/
def VRow (W : World) (b off : Nat) (vs : List Val) : Prop := b < W.heap.size ∧ ∀ j (h : j < vs.length), W.cell? ⟨b, off + j * 6, none⟩ = some (.int .i64 vs[j].kind) ∧ W.cell? ⟨b, off + j * 6 + 1, none⟩ = some (.int .i64 vs[j].mant) ∧ W.cell? ⟨b, off + j * 6 + 2, none⟩ = some (.int .i64 vs[j].exp) ∧ W.cell? ⟨b, off + j * 6 + 3, none⟩ = some (.string ⟨vs[j].text.toArray⟩) ∧ W.cell? ⟨b, off + j * 6 + 4, none⟩ = some (.bool vs[j].truth) ∧ W.cell? ⟨b, off + j * 6 + 5, none⟩ = some (.int .i64 vs[j].fault)
def VSl (W : World) (A : Option Addr) (vs : List Val) : Prop := 0 < vs.length → ∃ b off, A = some ⟨b, off, none⟩ ∧ VRow W b off vs
theorem VRow.next {W W' : World} {b off : Nat} {vs : List Val} (h : VRow W b off vs) (hb : Below W.heap.size W W') : VRow W' b off vs := by
  refine ⟨Nat.lt_of_lt_of_le h.1 hb.size, fun j hj => ?_⟩
  obtain ⟨a0, a1, a2, a3, a4, a5⟩ := h.2 j hj
  have k : ∀ i, W'.cell? ⟨b, i, none⟩ = W.cell? ⟨b, i, none⟩ := fun i => hb.cell (p := ⟨b, i, none⟩) h.1
  exact ⟨(k _).trans a0, (k _).trans a1, (k _).trans a2, (k _).trans a3, (k _).trans a4, (k _).trans a5⟩
theorem VSl.next {W W' : World} {A : Option Addr} {vs : List Val} (h : VSl W A vs) (hb : Below W.heap.size W W') : VSl W' A vs := fun hp => by
  obtain ⟨b, off, e, hr⟩ := h hp
  exact ⟨b, off, e, hr.next hb⟩
/-- what the values of an array may be of which a walk speaks -/
def Val.sane (v : Val) : Prop := -9223372036854775808 ≤ v.mant ∧ v.mant ≤ 9223372036854775807 ∧ v.text.length ≤ 100000
def aRight (r c : Int) (vs : List Val) : Bool := pFits r c && (decide ((vs.length : Int) = r * c) && vs.all vRight)
theorem fits_nat {r c : Int} (h : pFits r c = true) : ∃ R C : Nat, r = R ∧ c = C ∧ 1 ≤ R ∧ 1 ≤ C ∧ R ≤ 4096 ∧ C ≤ 4096 ∧ R * C ≤ 4096 := by
  unfold pFits at h
  simp only [Bool.and_eq_true, decide_eq_true_eq] at h
  obtain ⟨h1, h2, h3, h4⟩ := h
  obtain ⟨R, rfl⟩ : ∃ R : Nat, r = R := ⟨r.toNat, by omega⟩
  obtain ⟨C, rfl⟩ : ∃ C : Nat, c = C := ⟨c.toNat, by omega⟩
  have h5 : C ≤ 4096 / R := by
    rw [show (4096 : Int) = ((4096 : Nat) : Int) from rfl, ← Int.natCast_ediv] at h4
    omega
  have h6 : R * C ≤ 4096 := by
    have := Nat.mul_le_mul_left R h5
    have h7 := Nat.mul_div_le 4096 R
    omega
  have h8 : 4096 / R ≤ 4096 := Nat.div_le_self _ _
  exact ⟨R, C, rfl, rfl, by omega, by omega, by omega, by omega, h6⟩
set_option maxRecDepth 100000 in
set_option maxHeartbeats 6400000 in
theorem shRight_any (r c : Int) (A : Option Addr) (cap : Nat) (vs : List Val) (w : World) (hr1 : -9223372036854775808 ≤ r) (hr2 : r ≤ 9223372036854775807) (hv : VSl w A vs) (hs : ∀ v ∈ vs, v.sane) :
    Calls Tryz.prog 22 #[.agg #[.int .i64 r, .int .i64 c, .slice A vs.length cap]] w fun e w' => e = .returned (.bool (aRight r c vs)) ∧ Below w.heap.size w w' := by
  have CF := Lib.hid (fun W => fits_any r c W hr1 hr2)
  have hO : Hid (aRight r c vs = (pFits r c && (decide ((vs.length : Int) = r * c) && vs.all vRight))) := Lib.hid rfl
  generalize aRight r c vs = out at *
  have HB0 : Hid (Below w.heap.size w (w.alloc (.cells #[.int .i64 r, .int .i64 c, .slice A vs.length cap] 25))) := Lib.hid ((Below.refl _ w).alloc (Nat.le_refl _) _)
  have HL0 : Hid (Lies (w.alloc (.cells #[.int .i64 r, .int .i64 c, .slice A vs.length cap] 25)) w.heap.size 25 #[.int .i64 r, .int .i64 c, .slice A vs.length cap]) := Lib.hid (Lies.new w _ _)
  have HV0 := Lib.hid (hv.next HB0.out)
  have HS := Lib.hid hs
  clear hv hs
  cases hf : pFits r c
  · rw [hf] at CF hO
    clear hf
    go_enter Tryz.func22, Tryz.ntmps22
    go_wp2_with fail
    refine (CF.out _).mono ?_
    rintro e w1 ⟨rfl, rfl⟩
    go_wp2_with fail
    go_ret
    exact ⟨by rw [hO.out]; rfl, HB0.out⟩
  · obtain ⟨R, C, rfl, rfl, hR1, hC1, hR2, hC2, hRC⟩ := fits_nat hf
    rw [hf, Bool.true_and] at hO
    rw [hf] at CF
    obtain ⟨M, hM⟩ : ∃ M : Nat, R * C = M := ⟨_, rfl⟩
    have hm : (R : Int) * (C : Int) = (M : Int) := by rw [← hM]; simp
    rw [hm] at hO
    rw [hM] at hRC
    clear hf hM
    by_cases hne : vs.length = M
    · have hb : (((vs.length : Nat) : Int) != (M : Int)) = false := by rw [bne_eq_false_iff_eq]; omega
      rw [decide_eq_true (by omega), Bool.true_and] at hO
      have HA0 : Hid (∀ v ∈ vs.take 0, vRight v = true) := Lib.hid (fun v h => by simp at h)
      have hMl : vs.length ≤ 4096 := by omega
      have HN := Lib.hid hne
      have x0 := HL0.out.cell 0
      have x1 := HL0.out.cell 1
      have x2 := HL0.out.cell 2
      simp only [List.getElem?_toArray, List.getElem?_cons_zero, List.getElem?_cons_succ] at x0 x1 x2
      clear hne
      go_enter Tryz.func22, Tryz.ntmps22
      go_wp2_with fail
      refine (CF.out _).mono ?_
      rintro e w1 ⟨rfl, rfl⟩
      clear CF
      go_wp2_with fail
      go_loopw [3, 24] (fun _ v wr => ∃ j : Nat, v = .int .i64 (j : Int) ∧ j ≤ vs.length ∧ Hid (∀ v ∈ vs.take j, vRight v = true) ∧ Hid (Below w.heap.size w wr) ∧ Hid (Below (w.alloc (.cells #[.int .i64 (R : Int), .int .i64 (C : Int), .slice A vs.length cap] 25)).heap.size (w.alloc (.cells #[.int .i64 (R : Int), .int .i64 (C : Int), .slice A vs.length cap] 25)) wr)) (fun _ v _ => vs.length - (intOf v).toNat)
      case atStart => exact ⟨0, rfl, Nat.zero_le _, HA0, HB0, Lib.hid (Below.refl _ _)⟩
      case round =>
        obtain ⟨j, rfl, hj, hall, hbel, hb2⟩ := hrel
        clear HA0 x0 x1 x2
        have HL := Lies.below HL0.out hb2.out
        have x2 := HL.cell 2
        simp only [List.getElem?_toArray, List.getElem?_cons_zero, List.getElem?_cons_succ] at x2
        by_cases hlt : j < vs.length
        · obtain ⟨b, off, rfl, hvr⟩ := HV0.out (by omega)
          obtain ⟨y0, y1, y2, y3, y4, y5⟩ := (hvr.next hb2.out).2 j hlt
          obtain ⟨s1, s2, s3⟩ := HS.out vs[j] (List.getElem_mem hlt)
          have CR := Lib.hid (fun W => vvRight_any vs[j] W s1 s2 (by omega))
          clear s1 s2 s3 hvr
          cases hrj : vRight vs[j]
          · rw [hrj] at CR
            have hr : Hid (vs.all vRight = false) := Lib.hid (by
              rw [Bool.eq_false_iff]
              intro h
              have := List.all_eq_true.1 h vs[j] (List.getElem_mem hlt)
              rw [hrj] at this; cases this)
            go_wp2_with fail
            refine (CR.out _).mono ?_
            rintro z w2 ⟨rfl, hbb⟩
            have HB2 := Lib.hid (hbel.out.trans (hbb.mono hbel.out.size))
            clear hbb
            go_wp2_with fail
            go_ret
            exact ⟨by rw [hO.out, hr.out]; rfl, HB2.out⟩
          · rw [hrj] at CR
            have hall2 : Hid (∀ v ∈ vs.take (j + 1), vRight v = true) := Lib.hid (fun v h => by
              rw [List.take_succ_eq_append_getElem hlt] at h
              rcases List.mem_append.1 h with h | h
              · exact hall.out v h
              · rw [List.mem_singleton.1 h]; exact hrj)
            clear hall
            go_wp2_with fail
            refine (CR.out _).mono ?_
            rintro z w2 ⟨rfl, hbb⟩
            have HB2 := Lib.hid (hbel.out.trans (hbb.mono hbel.out.size))
            have HB3 := Lib.hid (hb2.out.trans (hbb.mono hb2.out.size))
            clear hbb
            go_wp2_with fail
            go_roundw
            case rel => exact ⟨j + 1, by go_num, by omega, hall2, HB2, HB3⟩
            case measure => simp [intOf]; omega
        · have hr : Hid (vs.all vRight = true) := Lib.hid (by
            rw [List.all_eq_true]
            intro v hv
            exact hall.out v (by rw [List.take_of_length_le (by omega)]; exact hv))
          clear hall
          go_wp2_with fail
          go_ret
          exact ⟨by rw [hO.out, hr.out]; rfl, hbel.out⟩
    · have hb : (((vs.length : Nat) : Int) != (M : Int)) = true := by rw [bne_iff_ne]; omega
      rw [decide_eq_false (by omega)] at hO
      go_enter Tryz.func22, Tryz.ntmps22
      go_wp2_with fail
      refine (CF.out _).mono ?_
      rintro e w1 ⟨rfl, rfl⟩
      go_wp2_with fail
      go_ret
      exact ⟨by rw [hO.out]; rfl, HB0.out⟩
def cellW (vs : List Val) (k : Nat) : Bs := match vs[k]? with
  | some v => cOut (cWord v)
  | none => []
/-- the cells before j of the row that begins at base -/
def cCells (vs : List Val) (base : Nat) : Nat → Bs
  | 0 => []
  | j + 1 => cCells vs base j ++ ((if 0 < j then [44] else []) ++ cellW vs (base + j))
/-- the rows before i -/
def cLns (vs : List Val) (C : Nat) : Nat → Bs
  | 0 => []
  | i + 1 => cLns vs C i ++ (cCells vs (i * C) C ++ [10])
def cWrite (r c : Int) (vs : List Val) : Bs := if aRight r c vs = true then cLns vs c.toNat r.toNat else []
theorem show_short (v : Val) (hR : vRight v = true) (h2 : v.kind ≠ 2) : (vShow v).length ≤ 1000 := by
  rcases kinds_right' hR with h | h | h | h | h
  · have hs : vShow v = [] := by
      unfold vShow vToText
      rw [if_neg (by omega), if_neg (by omega), if_neg (by omega), if_neg (by omega), if_neg (by omega)]
    rw [hs]; simp
  · have k := vRight_num v h
    rw [hR] at k
    have k1 := (Bool.and_eq_true_iff.1 k.symm).1
    have hs : vShow v = nText v.mant v.exp := by
      unfold vShow vToText
      rw [if_neg (by omega), if_pos h]
    rw [hs]
    rcases Nat.lt_or_ge 255 (nText v.mant v.exp).length with hl | hl
    · have hp := parse_text _ _ k1
      unfold pParse at hp
      rw [if_pos hl] at hp
      cases hp
    · omega
  · exact absurd h h2
  · have hs : vShow v = if v.truth then yesB else noB := by
      unfold vShow vToText
      rw [if_neg (by omega), if_neg (by omega), if_neg (by omega), if_pos h]
    rw [hs]
    split <;> decide
  · have hs : vShow v = pFaultText v.fault := by
      unfold vShow
      rw [if_pos h]
    rw [hs]
    by_cases hf : 1 ≤ v.fault ∧ v.fault ≤ 9
    · have := (read_fault _ hf.1 hf.2).2.2.2
      omega
    · have : pFaultText v.fault = [] := if_neg hf
      rw [this]; simp
theorem cWord_len (v : Val) (hs : v.sane) (hR : vRight v = true) : (cWord v).length ≤ 100001 := by
  have h3 := hs.2.2
  unfold cWord
  by_cases h : v.kind = 2
  · rw [if_pos h]
    split
    · rw [List.length_cons]; omega
    · omega
  · rw [if_neg h]
    have := show_short v hR h
    omega
theorem cOut_len (w : Bs) : (cOut w).length ≤ 2 * w.length + 2 := by
  unfold cOut
  have := quoteB_len w
  split
  · simp only [List.length_cons, List.length_append, List.length_nil]; omega
  · omega
theorem cellW_len (vs : List Val) (k : Nat) (h : ∀ v ∈ vs, v.sane ∧ vRight v = true) : (cellW vs k).length ≤ 300000 := by
  unfold cellW
  split
  · next v hv =>
    obtain ⟨hs, hR⟩ := h v (List.mem_of_getElem? hv)
    have := cOut_len (cWord v)
    have := cWord_len v hs hR
    omega
  · simp
theorem cCells_len (vs : List Val) (h : ∀ v ∈ vs, v.sane ∧ vRight v = true) (base : Nat) : ∀ j, (cCells vs base j).length ≤ j * 300001
  | 0 => by simp [cCells]
  | j + 1 => by
    have h1 := cCells_len vs h base j
    have h2 := cellW_len vs (base + j) h
    rw [cCells, List.length_append, List.length_append]
    have h3 : (if 0 < j then ([44] : Bs) else []).length ≤ 1 := by split <;> simp
    omega
theorem cLns_len (vs : List Val) (h : ∀ v ∈ vs, v.sane ∧ vRight v = true) (C : Nat) : ∀ i, (cLns vs C i).length ≤ i * C * 300001 + i
  | 0 => by simp [cLns]
  | i + 1 => by
    have h1 := cLns_len vs h C i
    have h2 := cCells_len vs h (i * C) C
    rw [cLns, List.length_append, List.length_append, List.length_singleton, Nat.add_mul]
    omega
theorem aRight_yes {r c : Int} {vs : List Val} (h : aRight r c vs = true) : pFits r c = true ∧ (vs.length : Int) = r * c ∧ ∀ v ∈ vs, vRight v = true := by
  unfold aRight at h
  simp only [Bool.and_eq_true, decide_eq_true_eq, List.all_eq_true] at h
  exact ⟨h.1, h.2.1, h.2.2⟩
theorem row_lt {i j R C : Nat} (hi : i < R) (hj : j < C) : i * C + j < R * C := by
  have : (i + 1) * C ≤ R * C := Nat.mul_le_mul_right C hi
  rw [Nat.add_mul] at this
  omega
def awakeL : List Val := [⟨1, 1, 0, [], false, 0⟩, ⟨2, 0, 0, [97, 44, 98], false, 0⟩, ⟨2, 0, 0, [84, 82, 85, 69], false, 0⟩]
def awakeC : Array Value := #[.int .i64 1, .int .i64 1, .int .i64 0, .string ⟨#[]⟩, .bool false, .int .i64 0, .int .i64 2, .int .i64 0, .int .i64 0, .string ⟨#[97, 44, 98]⟩, .bool false, .int .i64 0, .int .i64 2, .int .i64 0, .int .i64 0, .string ⟨#[84, 82, 85, 69]⟩, .bool false, .int .i64 0]
theorem awakeL_out : cWrite 1 3 awakeL = [49, 44, 34, 97, 44, 98, 34, 44, 39, 84, 82, 85, 69, 10] := by decide +kernel
theorem awakeL_sane : ∀ v ∈ awakeL, v.sane := by
  unfold awakeL Val.sane
  simp
end Go.Proofs.YtpdaloohgfnbhaaGreatDoor
